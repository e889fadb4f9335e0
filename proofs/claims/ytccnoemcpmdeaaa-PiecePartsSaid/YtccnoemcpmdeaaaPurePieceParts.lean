import Derived.Test.YtccnoemcpmdeaaaStPieceParts
import Derived.Test.YtccnoemcpmdeaaaPieceCut
import Derived.Test.YtccnoemcpmdeaaaPieceAwake
set_option linter.unusedVariables false
set_option linter.unusedSimpArgs false
namespace Go.Proofs.Ytccnoemcpmdeaaa.Pure
open Go.RowKit Go.Proofs.Ytccnoemcpmdeaaa.Q Go.Proofs.YtccnoemcpmdeaaaW.PrintWords Go.Proofs.YtccnoemcpmdeaaaW.PrintLast
theorem gather_ev' (image : List Int) (l : List S24) (hf : plFits l) : Ev (fun _ => piece_Gather.f image l) (gatherVal image l) := by
  unfold piece_Gather.f; rw [if_pos hf]; exact ev_some _
theorem atSpec_append (l m : List S24) (k : Int) (hk : 0 ≤ k) : atSpec (l ++ m) k = if k ≥ ((plAll l).length : Int) then atSpec m (k - ((plAll l).length : Int)) else atSpec l k := by
  unfold atSpec
  rw [if_pos hk, plAll_append]
  by_cases h : k ≥ ((plAll l).length : Int)
  · rw [if_pos h, if_pos (by omega), List.getElem?_append_right (by omega)]
    congr 3; omega
  · rw [if_neg h, if_pos hk, List.getElem?_append_left (by omega)]
theorem PieceParts : lockfastlaw14_PieceParts.Pure := by
  intro image l m x hi _ _ hl _ _ hm _ _ hx
  have hx' : 0 ≤ x ∧ x ≤ 65535 := by
    have h1 : IntKind.u16.min = 0 := by decide
    have h2 : IntKind.u16.max = 65535 := by decide
    simp only [Lit.wf, Bool.and_eq_true, decide_eq_true_eq] at hx
    omega
  suffices h : Ev (fun k => lockfastlaw14_PieceParts.f k image l m x) true from h.rounds
  have hl2 : l.length ≤ 9223372036854775806 := by omega
  have hm2 : m.length ≤ 9223372036854775806 := by omega
  unfold lockfastlaw14_PieceParts.f
  refine Ev.bind awake_ev (Ev.bind (few_ev l hl2) (Ev.bind (few_ev m hm2) ?_))
  have hstop : Ev (fun k => lockfastlaw14_PieceParts.j0 k image l m x true true) true := ev_next (f := fun _ => some true) (fun k => by simp only [lockfastlaw14_PieceParts.j0]; rw [if_pos (by trivial)]) (ev_some _)
  by_cases hfew : few l = true
  · refine Ev.congr (fun k => by rw [if_pos hfew]) ?_
    obtain ⟨hfit, hl9, hfb⟩ := few_fits hfew
    by_cases hfew2 : few m = true
    · refine Ev.congr (fun k => by rw [if_pos hfew2]) ?_
      obtain ⟨hfit2, hm9, hfb2⟩ := few_fits hfew2
      by_cases h1 : (image.length : Int) > 60
      · rw [decide_eq_true h1]; exact hstop
      · rw [decide_eq_false h1]
        have hp : (plAll l).length ≤ 9437184 := by
          have h1 := plAll_len_le l (fun s hs => (hfit.1 s hs).2.2.2)
          omega
        have hp2 : (plAll m).length ≤ 9437184 := by
          have h1 := plAll_len_le m (fun s hs => (hfit2.1 s hs).2.2.2)
          omega
        have hall : plFits (l ++ m) := ⟨fun s hs => (List.mem_append.1 hs).elim (hfit.1 s) (hfit2.1 s), by rw [List.length_append]; omega⟩
        have ht : Int.tmod x 800 = x % 800 := Int.tmod_eq_emod_of_nonneg hx'.1
        refine Ev.step (fun k => by simp only [lockfastlaw14_PieceParts.j0, Option.bind_some, List.length_nil, Nat.zero_add, List.nil_append]; rw [if_neg (by simp), if_pos (by omega), if_pos (by omega), ht, w64 (by omega)]) ?_
        refine Ev.bind (gather_ev' image l hfit) (Ev.bind (gather_ev' image m hfit2) (Ev.bind (total_ev l hfit) (Ev.bind (at_ev l hfit (x % 800) (by omega) (by omega)) ?_)))
        have hj : Ev (fun k => lockfastlaw14_PieceParts.j1 k image m true (l ++ m) (gatherVal image l) (gatherVal image m) ((plAll l).length : Int) (x % 800) (atSpec (l ++ m) (x % 800))) true := by
          refine Ev.step (fun k => by simp only [lockfastlaw14_PieceParts.j1, Option.bind_some, List.length_nil, Nat.zero_add, List.nil_append]; rw [if_pos (by trivial)]) ?_
          refine Ev.bind (total_ev (l ++ m) hall) (Ev.bind (total_ev m hfit2) ?_)
          refine Ev.congr (fun k => by rw [if_pos (by rw [w64 (by omega), plAll_append, List.length_append]; omega)]) ?_
          refine Ev.bind (at_ev (l ++ m) hall (x % 800) (by omega) (by omega)) ?_
          refine Ev.congr (fun k => by rw [if_pos (by trivial)]) ?_
          refine Ev.bind (gather_ev' image (l ++ m) hall) ?_
          refine Ev.congr (fun k => by rw [if_pos (by simp [gatherVal]; omega), if_pos (by simp [gatherVal]; omega)]) ?_
          exact Ev.bind (words_same _ _ (by simp [gatherVal, plAll_append]; omega) (by simp [gatherVal, plAll_append])) (ev_some _)
        have ha := atSpec_append l m (x % 800) (by omega)
        by_cases hk : x % 800 ≥ ((plAll l).length : Int)
        · rw [if_pos hk] at ha
          refine Ev.congr (fun k => by rw [if_pos hk, w64 (by omega)]) ?_
          refine Ev.bind (at_ev m hfit2 (x % 800 - ((plAll l).length : Int)) (by omega) (by omega)) ?_
          rw [← ha]; exact hj
        · rw [if_neg hk] at ha
          refine Ev.congr (fun k => by rw [if_neg hk]) ?_
          rw [← ha]; exact hj
    · exact Ev.congr (fun k => by rw [if_neg hfew2]) hstop
  · exact Ev.congr (fun k => by rw [if_neg hfew]) hstop
end Go.Proofs.Ytccnoemcpmdeaaa.Pure
