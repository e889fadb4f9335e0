import Derived.Test.YtccnoemcpmdeaaaStPieceCuts
import Derived.Test.YtccnoemcpmdeaaaPieceCuts2
import Derived.Test.YtccnoemcpmdeaaaPieceAwake
set_option linter.unusedVariables false
set_option linter.unusedSimpArgs false
namespace Go.Proofs.Ytccnoemcpmdeaaa.Pure
open Go.RowKit Go.Proofs.Ytccnoemcpmdeaaa.Q Go.Proofs.YtccnoemcpmdeaaaW.PrintWords Go.Proofs.YtccnoemcpmdeaaaW.PrintLast
theorem u8_range {x : Int} (h : (Lit.int .u8 x).wf = true) : 0 ≤ x ∧ x ≤ 255 := by
  have h1 : IntKind.u8.min = 0 := by decide
  have h2 : IntKind.u8.max = 255 := by decide
  simp only [Lit.wf, Bool.and_eq_true, decide_eq_true_eq] at h
  omega
theorem PieceCuts : lockfastlaw14_PieceCuts.Fact := by
  intro l x1 x2 x3 x4 hl _ _ h1 h2 h3 h4
  have h1 := u8_range h1
  have h2 := u8_range h2
  have h3 := u8_range h3
  have h4 := u8_range h4
  suffices h : Ev (fun k => lockfastlaw14_PieceCuts.f k l x1 x2 x3 x4) true from h.rounds
  have hm : l.length ≤ 9223372036854775806 := by omega
  unfold lockfastlaw14_PieceCuts.f
  refine Ev.bind awake_ev (Ev.bind (few_ev l hm) ?_)
  by_cases hfew : few l = true
  · refine Ev.congr (fun k => by rw [if_pos hfew]) ?_
    obtain ⟨hfit, hl9, hfb⟩ := few_fits hfew
    have hb : (plAll l).length ≤ 360 := by
      have : ∀ (l : List S24), (∀ s ∈ l, s.f1 ≤ 40) → (plAll l).length ≤ l.length * 40 := by
        intro l
        induction l with
        | nil => intro _; simp [plAll]
        | cons s l ih =>
          intro h
          have h1 := h s (by simp)
          have h2 := ih (fun t ht => h t (by simp [ht]))
          rw [plAll_cons, List.length_append, plOne_length, List.length_cons]
          omega
      have := this l (fun s hs => (hfb s hs).2.2.2)
      omega
    refine Ev.bind (total_ev l hfit) ?_
    by_cases ht : ((plAll l).length : Int) < 1
    · exact Ev.congr (fun k => by rw [if_pos ht]) (ev_some true)
    · obtain ⟨T, hT⟩ : ∃ T, (plAll l).length = T := ⟨_, rfl⟩
      rw [hT] at ht hb
      have hf1 : Int.tmod x1 T = x1 % T := Int.tmod_eq_emod_of_nonneg h1.1
      have hr := Int.emod_lt_of_pos x1 (show (0 : Int) < T by omega)
      have hr0 := Int.emod_nonneg x1 (show (T : Int) ≠ 0 by omega)
      obtain ⟨f, hf⟩ : ∃ f : Nat, x1 % (T : Int) = f := ⟨(x1 % (T : Int)).toNat, by omega⟩
      rw [hf] at hf1 hr hr0
      have hm1 : Int.tmod x2 (T - f) = x2 % (T - f) := Int.tmod_eq_emod_of_nonneg h2.1
      have hs := Int.emod_lt_of_pos x2 (show (0 : Int) < T - f by omega)
      have hs0 := Int.emod_nonneg x2 (show (T : Int) - f ≠ 0 by omega)
      obtain ⟨m, hmm⟩ : ∃ m : Nat, 1 + x2 % ((T : Int) - f) = m := ⟨(1 + x2 % ((T : Int) - f)).toNat, by omega⟩
      refine Ev.congr (fun k => by
        rw [hT, if_neg ht, if_neg (by omega), w64 (x := x1) (by omega), w64 (x := x2) (by omega), hf1, w64 (x := (T : Int) - f) (by omega), if_neg (by omega), hm1, hmm, w64 (x := (m : Int)) (by omega)]) ?_
      refine Ev.bind (cut_ev l hfit f m (by omega) (by omega) (by omega) (by omega)) ?_
      have hcs : cutSpec l f m = cutGo l 0 f (f + m) := by unfold cutSpec; rw [if_neg (by omega)]
      have hcb := cutGo_bounds l 1099511627776 40 0 f (f + m) hfb
      have hcl := cutGo_length l 0 f (f + m)
      have hcfit : plFits (cutSpec l f m) := by
        rw [hcs]; exact ⟨fun s hs => by have := hcb s hs; omega, by omega⟩
      have hca : plAll (cutSpec l f m) = ((plAll l).take (f + m)).drop f := by
        rw [hcs, plAll_cutGo l 0 f (f + m) (fun x hx => ⟨(hfb x hx).1, (hfb x hx).2.2.1⟩) (by omega)]
        rw [show ((f : Int) + m - 0).toNat = f + m by omega, show ((f : Int) - 0).toNat = f by omega]
      have hclen : (plAll (cutSpec l f m)).length = m := by rw [hca, List.length_drop, List.length_take]; omega
      refine Ev.bind (total_ev _ hcfit) ?_
      refine Ev.congr (fun k => by rw [hclen, if_pos rfl]) ?_
      have hcut : ∀ f' m' : Int, 0 ≤ f' → 1 ≤ m' → f' + m' ≤ m → cutSpec (cutSpec l f m) f' m' = cutSpec l (f + f') m' := by
        intro f' m' h5 h6 h7
        have e1 : cutSpec (cutSpec l f m) f' m' = cutGo (cutSpec l f m) 0 f' (f' + m') := if_neg (by rw [hclen]; omega)
        have e2 : cutSpec l (f + f') m' = cutGo l 0 (f + f') (f + (f' + m')) := by
          unfold cutSpec; rw [if_neg (by omega), show (f : Int) + f' + m' = f + (f' + m') by omega]
        rw [e1, e2, hcs]
        have := cutGo_cutGo l 0 f (f + m) f' (f' + m') (fun x hx => (hfb x hx).2.2.1) (by omega) h5 (by omega) (by omega)
        rw [← this]; congr 1; omega
      have h := cuts_l0 l (cutSpec l f m) hfit hcfit x3 x4 T f m (by rw [hT]) (by omega) (by omega) (by omega) h3 h4 hca hcut m 0 (by omega) (by omega)
      exact h
  · exact Ev.congr (fun k => by rw [if_neg hfew]) (ev_some true)
end Go.Proofs.Ytccnoemcpmdeaaa.Pure
