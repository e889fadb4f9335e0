/- The rows of chunks that can be had. -/
import Derived.Test.YtflbmccjfnkflaaDoorTileLib
import Derived.Test.YtflbmccjfnkflaaDoorQx10
set_option linter.unusedVariables false
set_option linter.unusedSimpArgs false
namespace Go.Proofs.YtflbmccjfnkflaaDoor.Pure
open Go.RowKit Go.Proofs.YtflbmccjfnkflaaDoor.Q Go.Proofs.YtflbmccjfnkflaaDoorW.PrintWords Go.Proofs.YtflbmccjfnkflaaDoorW.PrintLast Go.Proofs.YtflbmccjfnkflaaDoorW.PrintMore
abbrev Row := S36
theorem rdR (l : List Row) (i : Nat) (h : i < l.length) : rd_T36 l (i : Int) = l[i] := by simp [rd_T36, h]
def may (c : Chk) : Prop := c.f0 = 0 ∨ c.f0 = 1 ∧ c.f4 = 0
instance (c : Chk) : Decidable (may c) := by unfold may; infer_instance
theorem empty_eq (c : Chk) (h : ¬ c.f0 = 0) : chunk_Empty.f c.f0 c.f1 c.f2 c.f3 c.f4 = some (decide (may c)) := by
  unfold chunk_Empty.f may
  by_cases h1 : c.f0 = 1
  · rw [if_pos h1]
    refine congrArg some ?_
    rw [Bool.eq_iff_iff]; simp [h1]
  · rw [if_neg h1]; simp [h, h1]
def openR (i n : Nat) : List Row := if n = 0 then [] else [⟨((i - n : Nat) : Int), (n : Int)⟩]
/-- The rows from a place on, n chunks ahead of it being the open one. -/
def rowsG : Nat → Nat → List Chk → List Row
  | i, n, [] => openR i n
  | i, n, c :: cs => if may c then rowsG (i + 1) (n + 1) cs else openR i n ++ rowsG (i + 1) 0 cs
theorem rows_l0 (cs : List Chk) (hl : cs.length ≤ 1048576) : ∀ (d i n : Nat) (R : List Row), cs.length - i = d → i ≤ cs.length → n ≤ i → (∀ s ∈ R, 0 ≤ s.f0 + s.f1 ∧ s.f0 + s.f1 < (i : Int) - n) → R.length + (if n = 0 then 0 else 1) ≤ i →
    Ev (fun k => tile_Rows.l0 k (R ++ openR i n) cs (cs.length : Int) (i : Int)) (R ++ rowsG i n (cs.drop i)) := by
  intro d
  induction d with
  | zero =>
    intro i n R hd hi hn hR hlen
    obtain rfl : i = cs.length := by omega
    rw [List.drop_length, rowsG]
    exact ev_next (f := fun _ => some (R ++ openR cs.length n)) (fun k => by simp only [tile_Rows.l0]; rw [if_neg (by omega)]) (ev_some _)
  | succ d ih =>
    intro i n R hd hi hn hR hlen
    have hlt : i < cs.length := by omega
    have hol : (R ++ openR i n).length ≤ i := by
      unfold openR; rw [List.length_append]; split <;> simp_all
    rw [List.drop_eq_getElem_cons hlt, rowsG]
    have hj : Ev (fun k => tile_Rows.j1 k (R ++ openR i n) (i : Int) (wrap64 (((R ++ openR i n).length : Int) - 1)) cs (cs.length : Int) (i : Int) (!decide (may cs[i]))) (R ++ (if may cs[i] then rowsG (i + 1) (n + 1) (cs.drop (i + 1)) else openR i n ++ rowsG (i + 1) 0 (cs.drop (i + 1)))) := by
      by_cases hm : may cs[i]
      · rw [if_pos hm, decide_eq_true hm]
        have h1 := ih (i + 1) (n + 1) R (by omega) (by omega) (by omega) (fun s hs => by have := hR s hs; omega) (by simp at hlen ⊢; split at hlen <;> omega)
        have ho : openR (i + 1) (n + 1) = [⟨((i - n : Nat) : Int), ((n + 1 : Nat) : Int)⟩] := by
          unfold openR; rw [if_neg (by omega), show i + 1 - (n + 1) = i - n by omega]
        rw [ho] at h1
        by_cases h0 : n = 0
        · subst h0
          have he : R ++ openR i 0 = R := by simp [openR]
          rw [he]
          rw [he] at hol
          refine ev_next (f := fun k => tile_Rows.l0 k (R ++ [⟨((i - 0 : Nat) : Int), ((0 + 1 : Nat) : Int)⟩]) cs (cs.length : Int) ((i + 1 : Nat) : Int)) (fun k => ?_) h1
          simp only [tile_Rows.j1]
          rw [if_neg (by simp), w64 (x := (R.length : Int) - 1) (by omega), w64 (x := (i : Int) + 1) (by omega)]
          by_cases hz : R.length = 0
          · rw [if_neg (by omega), if_pos (by omega)]
            rfl
          · have hlast : R.length - 1 < R.length := by omega
            have hb := hR _ (List.getElem_mem hlast)
            rw [if_pos (by omega), if_pos (by omega), if_pos (by omega), show (R.length : Int) - 1 = ((R.length - 1 : Nat) : Int) by omega, rdR R _ hlast]
            have hne : ¬ wrap64 (R[R.length - 1].f0 + R[R.length - 1].f1) = (i : Int) := by unfold wrap64; omega
            rw [if_neg hne, if_pos (by omega)]
            rfl
        · have he : openR i n = [⟨((i - n : Nat) : Int), (n : Int)⟩] := by unfold openR; rw [if_neg h0]
          rw [he] at hol ⊢
          refine ev_next (f := fun k => tile_Rows.l0 k (R ++ [⟨((i - n : Nat) : Int), ((n + 1 : Nat) : Int)⟩]) cs (cs.length : Int) ((i + 1 : Nat) : Int)) (fun k => ?_) h1
          simp only [tile_Rows.j1]
          have hL : ((R ++ [(⟨((i - n : Nat) : Int), (n : Int)⟩ : Row)]).length : Int) - 1 = (R.length : Int) := by simp
          rw [if_neg (by simp), hL, w64 (x := (R.length : Int)) (by rw [List.length_append] at hol; simp at hol; omega), w64 (x := (i : Int) + 1) (by omega)]
          rw [if_pos (by omega), if_pos (by omega), if_pos (by simp; omega)]
          have hr : rd_T36 (R ++ [(⟨((i - n : Nat) : Int), (n : Int)⟩ : Row)]) (R.length : Int) = ⟨((i - n : Nat) : Int), (n : Int)⟩ := by
            rw [rdR _ _ (by simp)]; simp
          rw [hr]
          rw [w64 (x := ((i - n : Nat) : Int) + (n : Int)) (by omega), if_pos (by omega), w64 (x := (n : Int) + 1) (by omega), Int.toNat_natCast]
          have hs : (R ++ [(⟨((i - n : Nat) : Int), (n : Int)⟩ : Row)]).set R.length ⟨((i - n : Nat) : Int), (n : Int) + 1⟩ = R ++ [⟨((i - n : Nat) : Int), ((n + 1 : Nat) : Int)⟩] := by
            rw [List.set_append_right _ _ (by omega)]; simp
          rw [hs]
          rfl
      · rw [if_neg hm, decide_eq_false hm, ← List.append_assoc]
        have h1 := ih (i + 1) 0 (R ++ openR i n) (by omega) (by omega) (by omega) (fun s hs => by
          rcases List.mem_append.1 hs with hs | hs
          · have := hR s hs; omega
          · unfold openR at hs
            split at hs
            · cases hs
            · rw [List.mem_singleton] at hs
              subst hs
              show 0 ≤ ((i - n : Nat) : Int) + (n : Int) ∧ ((i - n : Nat) : Int) + (n : Int) < ((i + 1 : Nat) : Int) - ((0 : Nat) : Int)
              omega) (by simp only [if_true]; omega)
        have he : R ++ openR i n ++ openR (i + 1) 0 = R ++ openR i n := by simp [openR]
        rw [he] at h1
        refine ev_next (f := fun k => tile_Rows.l0 k (R ++ openR i n) cs (cs.length : Int) ((i + 1 : Nat) : Int)) (fun k => ?_) h1
        simp only [tile_Rows.j1]
        rw [if_pos (by rfl), w64 (by omega)]
        rfl
    refine Ev.step (fun k => by simp only [tile_Rows.l0]; rw [if_pos (by omega), if_pos (by omega), if_pos (by omega), rdC cs i hlt]) ?_
    by_cases h0 : cs[i].f0 = 0
    · refine Ev.congr (fun k => by rw [if_pos h0]) ?_
      have : (!decide (may cs[i])) = false := by rw [decide_eq_true (show may cs[i] from Or.inl h0)]; rfl
      rw [this] at hj
      exact hj
    · refine Ev.congr (fun k => by rw [if_neg h0, empty_eq _ h0, Option.bind_some]) hj
def rowsV (l : List Int) : List Row := rowsG 0 0 (chV l).1
theorem rows_ev (l : List Int) (hl : l.length ≤ 1048576) (hw : U64 l) : Ev (fun k => tile_Rows.f k l) (rowsV l) := by
  unfold tile_Rows.f
  refine Ev.bind (chunks_ev l hl hw) ?_
  have h := rows_l0 (chV l).1 (Nat.le_trans (chV_len l) hl) _ 0 0 [] rfl (by omega) (by omega) (by intro s hs; cases hs) (by simp)
  simpa [openR, rowsV] using h
/-- Rows are as long as can be, and rise. -/
def RowsOk (cs : List Chk) : Nat → List Row → Prop
  | _, [] => True
  | p, s :: r => ∃ a m : Nat, s = ⟨(a : Int), (m : Int)⟩ ∧ p ≤ a ∧ 1 ≤ m ∧ a + m ≤ cs.length ∧ (∀ h : a - 1 < cs.length, 0 < a → ¬ may cs[a - 1]) ∧ (∀ h : a + m < cs.length, ¬ may cs[a + m]) ∧ (∀ k, ∀ h : k < cs.length, a ≤ k → k < a + m → may cs[k]) ∧ RowsOk cs (a + m + 1) r
theorem rowsG_ok (cs : List Chk) : ∀ (d i n p : Nat), cs.length - i = d → i ≤ cs.length → n ≤ i → p ≤ i - n → (∀ k, ∀ h : k < cs.length, i - n ≤ k → k < i → may cs[k]) → (∀ h : i - n - 1 < cs.length, 0 < i - n → ¬ may cs[i - n - 1]) →
    RowsOk cs p (rowsG i n (cs.drop i)) := by
  intro d
  induction d with
  | zero =>
    intro i n p hd hi hn hp h1 h2
    obtain rfl : i = cs.length := by omega
    rw [List.drop_length, rowsG]
    unfold openR
    split
    · trivial
    · exact ⟨cs.length - n, n, rfl, hp, by omega, by omega, h2, fun h => by omega, fun k h h3 h4 => h1 k h h3 (by omega), trivial⟩
  | succ d ih =>
    intro i n p hd hi hn hp h1 h2
    have hlt : i < cs.length := by omega
    rw [List.drop_eq_getElem_cons hlt, rowsG]
    by_cases hm : may cs[i]
    · rw [if_pos hm]
      refine ih (i + 1) (n + 1) p (by omega) (by omega) (by omega) (by omega) ?_ ?_
      · intro k h h3 h4
        rcases Nat.lt_or_ge k i with hx | hx
        · exact h1 k h (by omega) hx
        · obtain rfl : k = i := by omega
          exact hm
      · intro h h3
        have e : i + 1 - (n + 1) = i - n := by omega
        rw [e] at h3
        have := h2 (by omega) h3
        simpa [e] using this
    · rw [if_neg hm]
      have hrest : ∀ q, q ≤ i + 1 → RowsOk cs q (rowsG (i + 1) 0 (cs.drop (i + 1))) := fun q hq => ih (i + 1) 0 q (by omega) (by omega) (by omega) (by omega) (fun k h h3 h4 => by omega) (fun h h3 => by simpa using hm)
      unfold openR
      split
      · exact hrest p (by omega)
      · refine ⟨i - n, n, rfl, hp, by omega, by omega, h2, fun h => ?_, fun k h h3 h4 => h1 k h h3 (by omega), hrest _ (by omega)⟩
        have e : i - n + n = i := by omega
        simp only [e]
        exact hm
end Go.Proofs.YtflbmccjfnkflaaDoor.Pure
