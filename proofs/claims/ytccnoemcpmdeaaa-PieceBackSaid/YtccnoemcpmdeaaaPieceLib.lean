/- What the functions of package piece, and the reference's, answer: plain lists. -/
import Derived.Test.YtccnoemcpmdeaaaQx2
import Derived.Test.YtccnoemcpmdeaaaQx7
import Derived.Test.YtccnoemcpmdeaaaQx3
import Derived.Test.YtccnoemcpmdeaaaQx8
import Derived.Test.YtccnoemcpmdeaaaQx11
import Derived.Test.YtccnoemcpmdeaaaQx6
set_option linter.unusedVariables false
set_option linter.unusedSimpArgs false
namespace Go.Proofs.Ytccnoemcpmdeaaa.Pure
open Go.RowKit Go.Proofs.Ytccnoemcpmdeaaa.Q Go.Proofs.YtccnoemcpmdeaaaW.PrintWords Go.Proofs.YtccnoemcpmdeaaaW.PrintLast

theorem w64 {x : Int} (h : -9223372036854775808 ≤ x ∧ x ≤ 9223372036854775807) : wrap64 x = x := by unfold wrap64; omega
theorem rdS (l : List S24) (i : Nat) (h : i < l.length) : rd_T24 l (i : Int) = l[i] := by simp [rd_T24, h]
theorem rdI (l : List Int) (i : Nat) (h : i < l.length) : rd l (i : Int) = l[i] := by simp [rd, h]
theorem ev_some {α : Type} (r : α) : Ev (fun _ => some r) r := ⟨0, fun _ _ => rfl⟩
theorem ev_next {α : Type} {g f : Nat → Option α} {r : α} (h : ∀ k, g (k + 1) = f k) (k : Ev f r) : Ev g r := Ev.step h k
theorem ev_eq {α : Type} {g : Nat → Option α} {r r' : α} (h : Ev g r) (e : r = r') : Ev g r' := e ▸ h
theorem ev_at {α : Type} {g : Nat → Option α} {r : α} (hg : ∀ k, LeO (g k) (g (k + 1))) (k : Nat) (h : g k = some r) : Ev g r := Ev.of hg h

theorem plAll_drop (l : List S24) (i : Nat) (h : i < l.length) : plAll (l.drop i) = plOne l[i] ++ plAll (l.drop (i + 1)) := by
  rw [List.drop_eq_getElem_cons h, plAll_cons]
theorem fitsAt {l : List S24} (hf : plFits l) (i : Nat) (h : i < l.length) : 0 ≤ l[i].f0 ∧ l[i].f0 ≤ 2199023255552 ∧ 0 ≤ l[i].f1 ∧ l[i].f1 ≤ 1048576 := hf.1 l[i] (List.getElem_mem h)

/-! Total -/
theorem total_l0 (l : List S24) (hf : plFits l) : ∀ (d i : Nat) (n : Int), l.length - i = d → i ≤ l.length → 0 ≤ n → n ≤ (i : Int) * 1048576 →
    Ev (fun k => piece_Total.l0 k n l (l.length : Int) (i : Int)) (n + ((plAll (l.drop i)).length : Int)) := by
  intro d
  induction d with
  | zero =>
    intro i n hd hi h0 h1
    obtain rfl : i = l.length := by omega
    refine ev_next (f := fun _ => some n) (fun k => by simp only [piece_Total.l0]; rw [if_neg (by omega)]) (ev_eq (ev_some n) (by simp [plAll]))
  | succ d ih =>
    intro i n hd hi h0 h1
    have hlt : i < l.length := by omega
    have hl := hf.2
    obtain ⟨_, _, a1, a2⟩ := fitsAt hf i hlt
    refine ev_next (f := fun k => piece_Total.l0 k (n + l[i].f1) l (l.length : Int) ((i + 1 : Nat) : Int)) (fun k => ?_) (ev_eq (ih (i + 1) (n + l[i].f1) (by omega) (by omega) (by omega) (by omega)) ?_)
    · simp only [piece_Total.l0]
      rw [if_pos (by omega), if_pos (by omega), if_pos (by omega), rdS l i hlt, w64 (by omega), w64 (by omega)]
      rfl
    · rw [plAll_drop l i hlt, List.length_append, plOne_length]; omega
theorem total_ev (l : List S24) (hf : plFits l) : Ev (fun k => piece_Total.f k l) ((plAll l).length : Int) := by
  have h := total_l0 l hf l.length 0 0 (by omega) (by omega) (by omega) (by omega)
  simpa [piece_Total.f] using h

/-! Places -/
theorem places_l1 (l : List S24) (hf : plFits l) (i : Nat) (hi : i < l.length) {r : List Int} :
    ∀ (d j : Nat) (out : List Int), l[i].f1.toNat - j = d → j ≤ l[i].f1.toNat → out.length ≤ 1048576 * i + j →
      Ev (fun k => lockfastref14_Places.l0 k l (out ++ ((plOne l[i]).drop j).map Int.ofNat) ((i + 1 : Nat) : Int)) r → Ev (fun k => lockfastref14_Places.l1 k l out (i : Int) (j : Int)) r := by
  intro d
  obtain ⟨b0, b1, a1, a2⟩ := fitsAt hf i hi
  have hl := hf.2
  induction d with
  | zero =>
    intro j out hd hj ho h
    refine ev_next (f := fun k => lockfastref14_Places.l0 k l out ((i + 1 : Nat) : Int)) (fun k => ?_) ?_
    · simp only [lockfastref14_Places.l1]
      rw [if_pos (by omega), if_pos (by omega), rdS l i hi, if_neg (by omega), w64 (by omega)]
      rfl
    · have : (plOne l[i]).drop j = [] := by rw [List.drop_eq_nil_iff, plOne_length]; omega
      rw [this, List.map_nil, List.append_nil] at h
      exact h
  | succ d ih =>
    intro j out hd hj ho h
    refine ev_next (f := fun k => lockfastref14_Places.l1 k l (out ++ [l[i].f0 + j]) (i : Int) ((j + 1 : Nat) : Int)) (fun k => ?_) (ih (j + 1) (out ++ [l[i].f0 + (j : Int)]) (by omega) (by omega) (by rw [List.length_append, List.length_singleton]; omega) ?_)
    · simp only [lockfastref14_Places.l1]
      rw [if_pos (by omega), if_pos (by omega), rdS l i hi, if_pos (by omega), if_pos (by omega), w64 (by omega), w64 (by omega)]
      rfl
    · have hjl : j < (plOne l[i]).length := by rw [plOne_length]; omega
      have e : (plOne l[i]).drop j = (l[i].f0.toNat + j) :: (plOne l[i]).drop (j + 1) := by
        rw [List.drop_eq_getElem_cons hjl]; simp [plOne]
      rw [e] at h
      rw [List.append_assoc]
      have e2 : ([l[i].f0 + (j : Int)] : List Int) ++ ((plOne l[i]).drop (j + 1)).map Int.ofNat = ((l[i].f0.toNat + j) :: (plOne l[i]).drop (j + 1)).map Int.ofNat := by
        simp; omega
      rw [e2]; exact h
theorem places_l0 (l : List S24) (hf : plFits l) : ∀ (d i : Nat) (out : List Int), l.length - i = d → i ≤ l.length → out.length ≤ 1048576 * i →
    Ev (fun k => lockfastref14_Places.l0 k l out (i : Int)) (out ++ (plAll (l.drop i)).map Int.ofNat) := by
  intro d
  induction d with
  | zero =>
    intro i out hd hi ho
    obtain rfl : i = l.length := by omega
    refine ev_next (f := fun _ => some out) (fun k => by simp only [lockfastref14_Places.l0]; rw [if_neg (by omega)]) (ev_eq (ev_some out) (by simp [plAll]))
  | succ d ih =>
    intro i out hd hi ho
    have hlt : i < l.length := by omega
    obtain ⟨b0, b1, a1, a2⟩ := fitsAt hf i hlt
    refine ev_next (f := fun k => lockfastref14_Places.l1 k l out (i : Int) 0) (fun k => by simp only [lockfastref14_Places.l0]; rw [if_pos (by omega)]) ?_
    refine places_l1 l hf i hlt l[i].f1.toNat 0 out (by omega) (by omega) (by omega) ?_
    rw [List.drop_zero]
    refine ev_eq (ih (i + 1) _ (by omega) (by omega) (by simp [plOne_length]; omega)) ?_
    rw [plAll_drop l i hlt]; simp
theorem places_ev (l : List S24) (hf : plFits l) : Ev (fun k => lockfastref14_Places.f k l) ((plAll l).map Int.ofNat) := by
  have h := places_l0 l hf l.length 0 [] (by omega) (by omega) (by simp)
  simpa [lockfastref14_Places.f] using h

/-! equality of lists -/
theorem words_l0 (a b : List Int) (hab : a.length = b.length) (hm : a.length ≤ 9223372036854775806) : ∀ (d i : Nat), a.length - i = d → i ≤ a.length →
    Ev (fun k => lockfastref01_Words.l0 k a b (i : Int)) (decide (a.drop i = b.drop i)) := by
  intro d
  induction d with
  | zero =>
    intro i hd hi
    obtain rfl : i = a.length := by omega
    refine ev_next (f := fun _ => some true) (fun k => by simp only [lockfastref01_Words.l0]; rw [if_neg (by omega)]) (ev_eq (ev_some true) (by simp [hab]))
  | succ d ih =>
    intro i hd hi
    have ha : i < a.length := by omega
    have hb : i < b.length := by omega
    by_cases e : a[i] = b[i]
    · refine ev_next (f := fun k => lockfastref01_Words.l0 k a b ((i + 1 : Nat) : Int)) (fun k => ?_) (ev_eq (ih (i + 1) (by omega) (by omega)) ?_)
      · simp only [lockfastref01_Words.l0]
        rw [if_pos (by omega), if_pos (by omega), if_pos (by omega), rdI a i ha, rdI b i hb, if_pos e, w64 (by omega)]
        rfl
      · have ea := List.drop_eq_getElem_cons ha
        have eb := List.drop_eq_getElem_cons hb
        rw [ea, eb, e, decide_eq_decide]
        exact ⟨fun h => by rw [h], fun h => (List.cons.inj h).2⟩
    · refine ev_next (f := fun _ => some false) (fun k => ?_) (ev_eq (ev_some false) ?_)
      · simp only [lockfastref01_Words.l0]
        rw [if_pos (by omega), if_pos (by omega), if_pos (by omega), rdI a i ha, rdI b i hb, if_neg e]
      · have ea := List.drop_eq_getElem_cons ha
        have eb := List.drop_eq_getElem_cons hb
        rw [ea, eb, eq_comm, decide_eq_false_iff_not]
        exact fun h => e (List.cons.inj h).1
theorem words_ev (a b : List Int) (hm : a.length ≤ 9223372036854775806) : Ev (fun k => lockfastref01_Words.f k a b) (decide (a = b)) := by
  by_cases h : a.length = b.length
  · have h1 := words_l0 a b h hm a.length 0 (by omega) (by omega)
    refine Ev.congr (f := fun k => lockfastref01_Words.l0 k a b 0) (fun k => by simp only [lockfastref01_Words.f]; rw [if_pos (by omega)]) (by simpa using h1)
  · refine Ev.congr (f := fun _ => some false) (fun k => by simp only [lockfastref01_Words.f]; rw [if_neg (by omega)]) (ev_eq (ev_some false) ?_)
    rw [eq_comm, decide_eq_false_iff_not]; intro e; exact h (by rw [e])
theorem words_same (a b : List Int) (hm : a.length ≤ 9223372036854775806) (e : a = b) : Ev (fun k => lockfastref01_Words.f k a b) true := ev_eq (words_ev a b hm) (by simp [e])
theorem same_l0 (a b : List S24) (hab : a.length = b.length) (hm : a.length ≤ 9223372036854775806) : ∀ (d i : Nat), a.length - i = d → i ≤ a.length → a = b →
    Ev (fun k => lockfastref04_Same.l0 k a b (i : Int)) true := by
  intro d
  induction d with
  | zero =>
    intro i hd hi _
    obtain rfl : i = a.length := by omega
    exact ev_next (f := fun _ => some true) (fun k => by simp only [lockfastref04_Same.l0]; rw [if_neg (by omega)]) (ev_some true)
  | succ d ih =>
    intro i hd hi e
    have ha : i < a.length := by omega
    subst e
    refine ev_next (f := fun k => lockfastref04_Same.l0 k a a ((i + 1 : Nat) : Int)) (fun k => ?_) (ih (i + 1) (by omega) (by omega) rfl)
    simp only [lockfastref04_Same.l0]
    rw [if_pos (by omega), if_pos (by omega), if_pos (by omega), if_neg (by simp), w64 (by omega)]
    rfl
theorem same_ev (a b : List S24) (hm : a.length ≤ 9223372036854775806) (e : a = b) : Ev (fun k => lockfastref04_Same.f k a b) true := by
  have h1 := same_l0 a b (by rw [e]) hm a.length 0 (by omega) (by omega) e
  exact Ev.congr (f := fun k => lockfastref04_Same.l0 k a b 0) (fun k => by simp only [lockfastref04_Same.f]; rw [if_pos (by rw [e])]) (by simpa using h1)

/-! Few -/
def few (l : List S24) : Bool := l.all (fun s => decide (0 ≤ s.f0 ∧ s.f0 ≤ 1099511627776 ∧ 0 ≤ s.f1 ∧ s.f1 ≤ 40)) && decide (l.length ≤ 9)
theorem few_l0 (l : List S24) (hm : l.length ≤ 9223372036854775806) : ∀ (d i : Nat), l.length - i = d → i ≤ l.length →
    Ev (fun k => lockfastref14_Few.l0 k l (i : Int)) ((l.drop i).all (fun s => decide (0 ≤ s.f0 ∧ s.f0 ≤ 1099511627776 ∧ 0 ≤ s.f1 ∧ s.f1 ≤ 40)) && decide (l.length ≤ 9)) := by
  intro d
  induction d with
  | zero =>
    intro i hd hi
    obtain rfl : i = l.length := by omega
    refine ev_next (f := fun _ => some (decide ((l.length : Int) ≤ 9))) (fun k => by simp only [lockfastref14_Few.l0]; rw [if_neg (by omega)]) (ev_eq (ev_some _) ?_)
    simp
    omega
  | succ d ih =>
    intro i hd hi
    have ha : i < l.length := by omega
    have he : (l.drop i).all (fun s => decide (0 ≤ s.f0 ∧ s.f0 ≤ 1099511627776 ∧ 0 ≤ s.f1 ∧ s.f1 ≤ 40)) = (decide (0 ≤ l[i].f0 ∧ l[i].f0 ≤ 1099511627776 ∧ 0 ≤ l[i].f1 ∧ l[i].f1 ≤ 40) && (l.drop (i + 1)).all (fun s => decide (0 ≤ s.f0 ∧ s.f0 ≤ 1099511627776 ∧ 0 ≤ s.f1 ∧ s.f1 ≤ 40))) := by
      rw [List.drop_eq_getElem_cons ha, List.all_cons]
    rw [he]
    by_cases h : 0 ≤ l[i].f0 ∧ l[i].f0 ≤ 1099511627776 ∧ 0 ≤ l[i].f1 ∧ l[i].f1 ≤ 40
    · rw [decide_eq_true h, Bool.true_and]
      refine ev_next (f := fun k => lockfastref14_Few.l0 k l ((i + 1 : Nat) : Int)) (fun k => ?_) (ih (i + 1) (by omega) (by omega))
      simp only [lockfastref14_Few.l0]
      rw [if_pos (by omega), if_pos (by omega), rdS l i ha, if_neg (by omega), if_neg (by omega), if_neg (by omega), if_neg (by omega), w64 (by omega)]
      rfl
    · rw [decide_eq_false h, Bool.false_and, Bool.false_and]
      refine ev_next (f := fun _ => some false) (fun k => ?_) (ev_some false)
      simp only [lockfastref14_Few.l0]
      rw [if_pos (by omega), if_pos (by omega), rdS l i ha]
      by_cases h1 : l[i].f0 < 0
      · rw [if_pos h1]
      · rw [if_neg h1]
        by_cases h2 : l[i].f0 > 1099511627776
        · rw [if_pos h2]
        · rw [if_neg h2]
          by_cases h3 : l[i].f1 < 0
          · rw [if_pos h3]
          · rw [if_neg h3, if_pos (by omega)]
theorem few_ev (l : List S24) (hm : l.length ≤ 9223372036854775806) : Ev (fun k => lockfastref14_Few.f k l) (few l) := by
  have h := few_l0 l hm l.length 0 (by omega) (by omega)
  simpa [lockfastref14_Few.f, few] using h
theorem few_fits {l : List S24} (h : few l = true) : plFits l ∧ l.length ≤ 9 ∧ ∀ s ∈ l, 0 ≤ s.f0 ∧ s.f0 ≤ 1099511627776 ∧ 0 ≤ s.f1 ∧ s.f1 ≤ 40 := by
  simp only [few, Bool.and_eq_true, List.all_eq_true, decide_eq_true_eq] at h
  exact ⟨⟨fun s hs => by have := h.1 s hs; omega, by omega⟩, h.2, h.1⟩
end Go.Proofs.Ytccnoemcpmdeaaa.Pure
