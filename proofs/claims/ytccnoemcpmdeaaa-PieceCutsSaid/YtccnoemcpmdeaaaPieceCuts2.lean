/- What is cut: its words are the log's; cut again it is cut of that. -/
import Derived.Test.YtccnoemcpmdeaaaQx11
import Derived.Test.YtccnoemcpmdeaaaPieceCut
set_option linter.unusedVariables false
set_option linter.unusedSimpArgs false
namespace Go.Proofs.Ytccnoemcpmdeaaa.Pure
open Go.RowKit Go.Proofs.Ytccnoemcpmdeaaa.Q Go.Proofs.YtccnoemcpmdeaaaW.PrintWords Go.Proofs.YtccnoemcpmdeaaaW.PrintLast Go.Proofs.YtccnoemcpmdeaaaW.PrintMore

theorem cutGo_late (l : List S24) : ∀ (n fr tt : Int), (∀ x ∈ l, 0 ≤ x.f1) → tt ≤ n → cutGo l n fr tt = [] := by
  induction l with
  | nil => intro n fr tt _ _; rfl
  | cons x r ih =>
    intro n fr tt h hn
    have hx := h x (by simp)
    rw [cutGo, if_neg (by omega), ih (n + x.f1) fr tt (fun y hy => h y (by simp [hy])) (by omega)]
    rfl
theorem plOne_cut (x : S24) (a b : Nat) (h0 : 0 ≤ x.f0) (h1 : 0 ≤ x.f1) (hab : a < b) (hb : (b : Int) ≤ x.f1) : plOne ⟨x.f0 + a, (b : Int) - a⟩ = ((plOne x).take b).drop a := by
  apply List.ext_getElem
  · simp [plOne]; omega
  · intro i h2 h3
    simp [plOne]
    omega
theorem plAll_cutGo (l : List S24) : ∀ (n fr tt : Int), (∀ x ∈ l, 0 ≤ x.f0 ∧ 0 ≤ x.f1) → fr < tt → plAll (cutGo l n fr tt) = ((plAll l).take (tt - n).toNat).drop (fr - n).toNat := by
  induction l with
  | nil => intro n fr tt _ _; simp [cutGo, plAll]
  | cons x r ih =>
    intro n fr tt h hft
    have hx := h x (by simp)
    have hi := ih (n + x.f1) fr tt (fun y hy => h y (by simp [hy])) hft
    rw [cutGo, plAll_append, hi, plAll_cons, List.take_append, List.drop_append, plOne_length]
    congr 1
    · by_cases hc : max fr n < min tt (n + x.f1)
      · rw [if_pos hc]
        obtain ⟨a, ha⟩ : ∃ a : Nat, max fr n - n = (a : Int) := ⟨(max fr n - n).toNat, by omega⟩
        obtain ⟨b, hb⟩ : ∃ b : Nat, min tt (n + x.f1) - n = (b : Int) := ⟨(min tt (n + x.f1) - n).toNat, by omega⟩
        have e : plAll [(⟨x.f0 + max fr n - n, min tt (n + x.f1) - max fr n⟩ : S24)] = plOne ⟨x.f0 + a, (b : Int) - a⟩ := by
          rw [plAll_cons, show x.f0 + max fr n - n = x.f0 + a by omega, show min tt (n + x.f1) - max fr n = (b : Int) - a by omega]; simp [plAll]
        rw [e, plOne_cut x a b hx.1 hx.2 (by omega) (by omega)]
        have e2 : (fr - n).toNat = a := by omega
        rw [e2]
        by_cases hb2 : tt ≤ n + x.f1
        · rw [show (tt - n).toNat = b by omega]
        · rw [List.take_of_length_le (by rw [plOne_length]; omega), List.take_of_length_le (l := plOne x) (by rw [plOne_length]; omega)]
      · rw [if_neg hc]
        have : ((plOne x).take (tt - n).toNat).drop (fr - n).toNat = [] := by
          rw [List.drop_eq_nil_iff, List.length_take, plOne_length]; omega
        rw [this]; rfl
    · rw [List.length_take, plOne_length]
      congr 1
      · omega
      · congr 1
        omega
theorem cutGo_cutGo (l : List S24) : ∀ (n fr tt f t : Int), (∀ x ∈ l, 0 ≤ x.f1) → fr < tt → 0 ≤ f → f < t → fr + t ≤ tt →
    cutGo (cutGo l n fr tt) (max n fr - fr) f t = cutGo l n (fr + f) (fr + t) := by
  induction l with
  | nil => intro n fr tt f t _ _ _ _ _; rfl
  | cons x r ih =>
    intro n fr tt f t h h1 h2 h3 h4
    have hx := h x (by simp)
    have hr : ∀ y ∈ r, 0 ≤ y.f1 := fun y hy => h y (by simp [hy])
    by_cases hlate : tt ≤ n
    · rw [cutGo_late (x :: r) n fr tt h hlate, cutGo_late (x :: r) n (fr + f) (fr + t) h (by omega)]; rfl
    · have hi := ih (n + x.f1) fr tt f t hr h1 h2 h3 h4
      by_cases hc : max fr n < min tt (n + x.f1)
      · rw [cutGo, if_pos hc, List.singleton_append, cutGo, cutGo]
        have hrest : cutGo (cutGo r (n + x.f1) fr tt) (max n fr - fr + (min tt (n + x.f1) - max fr n)) f t = cutGo r (n + x.f1) (fr + f) (fr + t) := by
          by_cases hb : n + x.f1 ≤ tt
          · rw [← hi]; congr 1; omega
          · rw [cutGo_late r (n + x.f1) fr tt hr (by omega), cutGo_late r (n + x.f1) (fr + f) (fr + t) hr (by omega)]; rfl
        rw [hrest]
        congr 1
        by_cases hd : max (fr + f) n < min (fr + t) (n + x.f1)
        · rw [if_pos hd, if_pos (by simp only []; omega)]
          congr 2
          · simp only []; omega
          · simp only []; omega
        · rw [if_neg hd, if_neg (by simp only []; omega)]
      · rw [cutGo, if_neg hc, List.nil_append, cutGo, if_neg (by omega), List.nil_append, ← hi]
        congr 1
        omega
theorem cutGo_bounds (l : List S24) (X Y : Int) : ∀ (n fr tt : Int), (∀ x ∈ l, 0 ≤ x.f0 ∧ x.f0 ≤ X ∧ 0 ≤ x.f1 ∧ x.f1 ≤ Y) → ∀ s ∈ cutGo l n fr tt, 0 ≤ s.f0 ∧ s.f0 ≤ X + Y ∧ 0 ≤ s.f1 ∧ s.f1 ≤ Y := by
  induction l with
  | nil => intro n fr tt _ s hs; simp [cutGo] at hs
  | cons x r ih =>
    intro n fr tt h s hs
    have hx := h x (by simp)
    rw [cutGo, List.mem_append] at hs
    rcases hs with hs | hs
    · split at hs
      · simp at hs; subst hs; simp only []; omega
      · simp at hs
    · exact ih (n + x.f1) fr tt (fun y hy => h y (by simp [hy])) s hs

theorem take_drop_getElem? (L : List Nat) (f m i : Nat) (h : i < m) : ((L.take (f + m)).drop f)[i]? = L[f + i]? := by
  rw [List.getElem?_drop, List.getElem?_take, if_pos (by omega)]

theorem cuts_l0 (l c : List S24) (hl : plFits l) (hc : plFits c) (x3 x4 T : Int) (f m : Nat) (hT : T = ((plAll l).length : Int)) (hm : 1 ≤ m) (hfm : f + m ≤ (plAll l).length) (hb : (plAll l).length ≤ 360)
    (hx3 : 0 ≤ x3 ∧ x3 ≤ 255) (hx4 : 0 ≤ x4 ∧ x4 ≤ 255)
    (hca : plAll c = ((plAll l).take (f + m)).drop f) (hcut : ∀ f' m' : Int, 0 ≤ f' → 1 ≤ m' → f' + m' ≤ m → cutSpec c f' m' = cutSpec l (f + f') m') :
    ∀ (d i : Nat), m - i = d → i ≤ m → Ev (fun k => lockfastlaw14_PieceCuts.l0 k l x3 x4 true T c (i : Int) (f : Int) (m : Int)) true := by
  intro d
  induction d with
  | zero =>
    intro i hd hi
    obtain rfl : i = m := by omega
    have ht3 : Int.tmod x3 i = x3 % i := Int.tmod_eq_emod_of_nonneg hx3.1
    have hr := Int.emod_lt_of_pos x3 (show (0 : Int) < i by omega)
    have hr0 := Int.emod_nonneg x3 (show (i : Int) ≠ 0 by omega)
    have ht4 : Int.tmod x4 (i - x3 % i) = x4 % (i - x3 % i) := Int.tmod_eq_emod_of_nonneg hx4.1
    have hs := Int.emod_lt_of_pos x4 (show (0 : Int) < i - x3 % i by omega)
    have hs0 := Int.emod_nonneg x4 (show (i : Int) - x3 % i ≠ 0 by omega)
    obtain ⟨F, hF⟩ : ∃ F, x3 % (i : Int) = F := ⟨_, rfl⟩
    rw [hF] at ht3 hr hr0 ht4 hs hs0
    obtain ⟨M, hM⟩ : ∃ M, x4 % ((i : Int) - F) = M := ⟨_, rfl⟩
    rw [hM] at ht4 hs hs0
    refine Ev.step (fun k => by
      simp only [lockfastlaw14_PieceCuts.l0]
      rw [if_neg (by omega), if_neg (by omega), w64 (x := x3) (by omega), w64 (x := x4) (by omega), ht3, w64 (x := (i : Int) - F) (by omega), if_neg (by omega), if_pos (by trivial), ht4, w64 (x := 1 + M) (by omega), w64 (x := (f : Int) + F) (by omega), w64 (x := T - f) (by omega), w64 (x := T - f + 1) (by omega)]) ?_
    refine Ev.bind (cut_ev c hc F (1 + M) (by omega) (by omega) (by omega) (by omega)) (Ev.bind (cut_ev l hl (f + F) (1 + M) (by omega) (by omega) (by omega) (by omega)) ?_)
    refine Ev.bind (same_ev _ _ (by have := cutSpec_length c F (1 + M); have := hc.2; omega) (hcut F (1 + M) (by omega) (by omega) (by omega))) ?_
    refine Ev.congr (fun k => by rw [if_pos (by trivial)]) ?_
    refine Ev.bind (cut_ev l hl f (T - f + 1) (by omega) (by omega) (by omega) (by omega)) ?_
    refine ev_eq (ev_some _) ?_
    have : cutSpec l f (T - f + 1) = [] := by unfold cutSpec; rw [if_pos (by omega)]
    rw [this]; rfl
  | succ d ih =>
    intro i hd hi
    refine Ev.step (fun k => by
      simp only [lockfastlaw14_PieceCuts.l0]
      rw [if_pos (by omega), w64 (x := (f : Int) + i) (by omega), w64 (x := (i : Int) + 1) (by omega)]) ?_
    refine Ev.bind (at_ev c hc i (by omega) (by omega)) (Ev.bind (at_ev l hl (f + i) (by omega) (by omega)) ?_)
    have e : atSpec c i = atSpec l (f + i) := by
      unfold atSpec
      rw [if_pos (by omega), if_pos (by omega), hca, Int.toNat_natCast, take_drop_getElem? _ _ _ _ (by omega), show ((f : Int) + i).toNat = f + i by omega]
    exact Ev.congr (fun k => by rw [if_pos e]; rfl) (ih (i + 1) (by omega) (by omega))
end Go.Proofs.Ytccnoemcpmdeaaa.Pure
