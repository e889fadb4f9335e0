import Derived.Test.YtbbpcbjgekencaaGreatDoorM10
section
set_option linter.unusedVariables false
set_option linter.unusedSimpArgs false
set_option linter.unusedVariables false
set_option linter.unusedSimpArgs false
namespace Go.Proofs.YtbbpcbjgekencaaGreatDoor.PS
open Go Go.Proofs.YtbbpcbjgekencaaGreatDoor.Q Go.Proofs.YtbbpcbjgekencaaGreatDoor.FT Go.Proofs.YtbbpcbjgekencaaGreatDoor.Ev
def rightC (k c l m b : Int) : Bool := decide ((k = 0 ∨ k = 3) ∧ c = 0 ∧ l = 0 ∧ m = 0 ∧ b = 0 ∨ k = 1 ∧ l = 0 ∧ m = 0 ∧ (c = 0 ∧ b < 256 ∨ c = 1 ∧ b < 16 ∨ c = 2 ∧ b < 4) ∨
 k = 2 ∧ c = 0 ∧ l = 0 ∧ b = 0 ∧ 1 ≤ m ∧ m ≤ 8191 ∨ k = 4 ∧ c = 0 ∧ b = 0 ∧ 0 ≤ l ∧ l ≤ 63 ∧ 0 ≤ m ∧ m ≤ 7)
theorem some_dec {p : Prop} [Decidable p] {b : Bool} (h : b = true ↔ p) : some b = some (decide p) := by
 congr 1
 rw [Bool.eq_iff_iff, h]
 simp
theorem right_eq (f : Nat) (k c l m b : Int) : chunk_Right.f f k c l m b = some (rightC k c l m b) := by
 unfold chunk_Right.f chunk_right.f chunk_own.f rightC
 by_cases k1 : k = 1
 ·subst k1
  simp only [beq_self_eq_true, if_true]
  by_cases hc : 0 ≤ c ∧ c < 3
  ·rw [if_pos (decide_eq_true hc.1), if_pos (decide_eq_true hc.2)]
   rcases (show c = 0 ∨ c = 1 ∨ c = 2 by omega) with rfl | rfl | rfl
   ·show (some (decide (b < 256))).bind _ = _
    rw [Option.bind_some]
    split <;> rename_i hb <;> simp at hb <;> refine some_dec ?_ <;> simp <;> omega
   ·show (some (decide (b < 16))).bind _ = _
    rw [Option.bind_some]
    split <;> rename_i hb <;> simp at hb <;> refine some_dec ?_ <;> simp <;> omega
   ·show (some (decide (b < 4))).bind _ = _
    rw [Option.bind_some]
    split <;> rename_i hb <;> simp at hb <;> refine some_dec ?_ <;> simp <;> omega
  ·have e : (if decide (c ≥ 0) = true then if decide (c < 3) = true then (class_Many.f f c).bind fun y0 => if y0 < 0 then none else some (decide (b < IntKind.u64.wrap (1 * 2 ^ min y0.toNat IntKind.u64.bits))) else some false else some false) = some false := by
    split
    ·split
     ·rename_i h1 h2; simp at h1 h2; omega
     ·rfl
    ·rfl
   rw [e, Option.bind_some, if_neg (by decide)]
   refine some_dec ?_
   simp
   omega
 by_cases k2 : k = 2
 ·subst k2
  simp only [beq_self_eq_true, if_true, show ((2 : Int) == 1) = false from rfl, Bool.false_eq_true, if_false]
  split
  ·rename_i h1
   simp at h1
   rw [Option.bind_some]
   split <;> rename_i hb <;> simp at hb <;> refine some_dec ?_ <;> simp <;> omega
  ·rename_i h1
   simp at h1
   rw [Option.bind_some, if_neg (by decide)]
   refine some_dec ?_
   simp
   omega
 by_cases k4 : k = 4
 ·subst k4
  simp only [beq_self_eq_true, if_true, show ((4 : Int) == 1) = false from rfl, show ((4 : Int) == 2) = false from rfl, Bool.false_eq_true, if_false]
  by_cases hh : 0 ≤ l ∧ l < 64 ∧ 0 ≤ m
  ·rw [if_pos (decide_eq_true hh.1), if_pos (decide_eq_true hh.2.1), if_pos (decide_eq_true hh.2.2), Option.bind_some]
   split <;> rename_i hb <;> simp at hb <;> refine some_dec ?_ <;> simp <;> omega
  ·have e : (if decide (l ≥ 0) = true then if decide (l < 64) = true then if decide (m ≥ 0) = true then some (decide (m < 8)) else some false else some false else some false) = some false := by
    split
    ·split
     ·split
      ·rename_i h1 h2 h3; simp at h1 h2 h3; omega
      ·rfl
     ·rfl
    ·rfl
   rw [e, Option.bind_some, if_neg (by decide)]
   refine some_dec ?_
   simp
   omega
 have e1 : (k == 1) = false := by simpa using k1
 have e2 : (k == 2) = false := by simpa using k2
 have e4 : (k == 4) = false := by simpa using k4
 simp only [e1, e2, e4, Bool.false_eq_true, if_false]
 by_cases k0 : k = 0
 ·subst k0
  simp only [beq_self_eq_true, if_true, if_false, Option.bind_some, Bool.true_eq_false]
  refine some_dec ?_
  simp
  omega
 have e0 : (k == 0) = false := by simpa using k0
 simp only [e0, if_true, Option.bind_some]
 by_cases k3 : k = 3
 ·subst k3
  simp only [beq_self_eq_true, if_true, Option.bind_some]
  refine some_dec ?_
  simp
  omega
 ·have e3 : (k == 3) = false := by simpa using k3
  simp only [e3, Bool.false_eq_true, if_false]
  refine some_dec ?_
  simp
  omega
theorem many_ref (k : Nat) (c : Int) (h : c = 0 ∨ c = 1 ∨ c = 2) : r09_Many.f (k + 20) c = some (if c = 0 then 8 else if c = 1 then 4 else 2) := by
 rcases h with rfl | rfl | rfl <;> kernel_rfl
theorem power_ref (k : Nat) (c : Int) (h : c = 8 ∨ c = 4 ∨ c = 2) : r10_power.f (k + 20) c = some (if c = 8 then 256 else if c = 4 then 16 else 4) := by
 rcases h with rfl | rfl | rfl <;> kernel_rfl
theorem refRight_eq (f : Nat) (k c l m b : Int) : r10_Right.f (f + 21) k c l m b = some (rightC k c l m b) := by
 have c3 : ∀ x5, x5 = (decide (k = 0 ∨ k = 3)) → r10_Right.c3 (f + 20 + 1) k x5 k c l m b = some (rightC k c l m b) := by
  intro x5 h5
  unfold rightC
  rw [r10_Right.c3]
  by_cases k03 : k = 0 ∨ k = 3
  ·have : x5 = true := by rw [h5]; simpa using k03
   rw [this, if_pos rfl]
   refine some_dec ?_
   rcases k03 with rfl | rfl <;> simp <;> omega
  have : x5 = false := by rw [h5]; simpa using k03
  rw [this, if_neg (by decide)]
  by_cases k1 : k = 1
  ·subst k1
   simp only [beq_self_eq_true, if_true, Bool.true_and]
   by_cases hl : l = 0 ∧ m = 0
   ·obtain ⟨rfl, rfl⟩ := hl
    simp only [beq_self_eq_true, if_true, Bool.true_and]
    by_cases hc : 0 ≤ c ∧ c ≤ 2
    ·rw [if_pos (decide_eq_true hc.1), if_pos (decide_eq_true hc.2), many_ref f c (by omega), Option.bind_some]
     rcases (show c = 0 ∨ c = 1 ∨ c = 2 by omega) with rfl | rfl | rfl
     ·rw [if_pos rfl, power_ref f 8 (by omega), Option.bind_some]; refine some_dec ?_; simp
     ·rw [if_neg (by decide), if_pos rfl, power_ref f 4 (by omega), Option.bind_some]; refine some_dec ?_; simp
     ·rw [if_neg (by decide), if_neg (by decide), power_ref f 2 (by omega), Option.bind_some]; refine some_dec ?_; simp
    ·split
     ·rename_i h1
      simp at h1
      rw [if_neg (by simp; omega)]
      refine some_dec ?_
      simp
      omega
     ·refine some_dec ?_
      simp
      omega
   ·have : (l == 0 && (m == 0 && true)) = false := by simp; omega
    rw [this, if_neg (by decide)]
    refine some_dec ?_
    simp
    omega
  have e1 : (k == 1) = false := by simpa using k1
  rw [e1, if_neg (by decide)]
  by_cases k2 : k = 2
  ·subst k2
   simp only [beq_self_eq_true, if_true, Bool.true_and]
   by_cases hl : c = 0 ∧ l = 0 ∧ b = 0
   ·obtain ⟨rfl, rfl, rfl⟩ := hl
    simp only [beq_self_eq_true, if_true, Bool.true_and]
    split
    ·refine some_dec ?_
     rename_i h1
     simp at h1
     simp
     omega
    ·refine some_dec ?_
     rename_i h1
     simp at h1
     simp
     omega
   ·have : (c == 0 && (l == 0 && b == 0)) = false := by simp; omega
    rw [this, if_neg (by decide)]
    refine some_dec ?_
    simp
    omega
  have e2 : (k == 2) = false := by simpa using k2
  rw [e2, if_neg (by decide)]
  by_cases k4 : k = 4
  ·subst k4
   simp only [beq_self_eq_true, if_true, Bool.true_and]
   by_cases hl : c = 0 ∧ b = 0
   ·obtain ⟨rfl, rfl⟩ := hl
    simp only [beq_self_eq_true, if_true, Bool.true_and]
    by_cases hh : 0 ≤ l ∧ l ≤ 63 ∧ 0 ≤ m
    ·rw [if_pos (decide_eq_true hh.1), if_pos (decide_eq_true hh.2.1), if_pos (decide_eq_true hh.2.2)]
     refine some_dec ?_
     simp
     omega
    ·have e : (if decide (l ≥ 0) = true then if decide (l ≤ 63) = true then if decide (m ≥ 0) = true then some (decide (m ≤ 7)) else some false else some false else some false) = some false := by
      split
      ·split
       ·split
        ·rename_i h1 h2 h3; simp at h1 h2 h3; omega
        ·rfl
       ·rfl
      ·rfl
     rw [e]
     refine some_dec ?_
     simp
     omega
   ·have : (c == 0 && b == 0) = false := by simp; omega
    rw [this, if_neg (by decide)]
    refine some_dec ?_
    simp
    omega
  have e4 : (k == 4) = false := by simpa using k4
  rw [e4, if_neg (by decide)]
  refine some_dec ?_
  simp
  omega
 unfold r10_Right.f
 by_cases k0 : k = 0
 ·subst k0
  exact c3 true (by simp)
 ·rw [if_neg (by simpa using k0)]
  exact c3 (k == 3) (by rw [Bool.eq_iff_iff]; simp [k0])
def decC (w : Int) : S114 := ⟨w % 8, w / 8 % 4, w / 32 % 64, w / 2048 % 8192, w / 16777216 % 256⟩
def okC (c : S114) : Bool := rightC c.f0 c.f1 c.f2 c.f3 c.f4
def decOk (w : Int) : Bool := okC (decC w) && decide (w < 4294967296)
def decT (w : Int) : Int × Int × Int × Int × Int × Bool := if decOk w = true then ((decC w).f0, (decC w).f1, (decC w).f2, (decC w).f3, (decC w).f4, true) else (0, 0, 0, 0, 0, false)
theorem get1 (k : Nat) (w : Int) (hw : Wd w) : chunk_place_get.f k 0 3 w = some (w % 8) := by
 have h := fget k w hw 0 3 (by omega) (by omega)
 simp at h
 unfold chunk_place_get.f
 rw [h]
 rfl
theorem get2 (k : Nat) (w : Int) (hw : Wd w) : chunk_place_get.f k 3 2 w = some (w / 8 % 4) := by
 have h := fget k w hw 3 2 (by omega) (by omega)
 simp at h
 unfold chunk_place_get.f
 rw [h]
 rfl
theorem get3 (k : Nat) (w : Int) (hw : Wd w) : chunk_place_get.f k 5 6 w = some (w / 32 % 64) := by
 have h := fget k w hw 5 6 (by omega) (by omega)
 simp at h
 unfold chunk_place_get.f
 rw [h]
 rfl
theorem get4 (k : Nat) (w : Int) (hw : Wd w) : chunk_place_get.f k 11 13 w = some (w / 2048 % 8192) := by
 have h := fget k w hw 11 13 (by omega) (by omega)
 simp at h
 unfold chunk_place_get.f
 rw [h]
 rfl
theorem get5 (k : Nat) (w : Int) (hw : Wd w) : chunk_place_get.f k 24 8 w = some (w / 16777216 % 256) := by
 have h := fget k w hw 24 8 (by omega) (by omega)
 simp at h
 unfold chunk_place_get.f
 rw [h]
 rfl
theorem word_eq (f : Nat) (k c l m b : Int) (hk : 0 ≤ k ∧ k < 8) (hc : 0 ≤ c ∧ c < 4) (hl : 0 ≤ l ∧ l < 64) (hm : 0 ≤ m ∧ m < 8192) (hb : 0 ≤ b ∧ b < 256) : chunk_word.f f k c l m b = some (k + 8 * c + 32 * l + 2048 * m + 16777216 * b) := by
 unfold chunk_word.f H.chunk_word.f H.chunk_place_put.f chunk_place_put.f
 have p1 := fput 100 0 k 0 3 ⟨by omega, by omega⟩ (by omega) (by omega) (by decide) (by omega) (by omega)
 have p2 := fput 100 k c 3 2 ⟨by omega, by omega⟩ (by omega) (by omega) (by omega) (by omega) (by omega)
 have p3 := fput 100 (k + c * 8) l 5 6 ⟨by omega, by omega⟩ (by omega) (by omega) (by omega) (by omega) (by omega)
 have p4 := fput 100 (k + c * 8 + l * 32) m 11 13 ⟨by omega, by omega⟩ (by omega) (by omega) (by omega) (by omega) (by omega)
 have p5 := fput 100 (k + c * 8 + l * 32 + m * 2048) b 24 8 ⟨by omega, by omega⟩ (by omega) (by omega) (by omega) (by omega) (by omega)
 simp at p1 p2 p3 p4 p5
 rw [u64w (by omega) (by omega), u64w (by omega) (by omega), u64w (by omega) (by omega), u64w (by omega) (by omega)]
 simp only [p1, p2, p3, p4, p5, Option.bind_some]
 congr 1
 omega
theorem decode_eq (f : Nat) (w : Int) (hw : Wd w) : chunk_Decode.f f w = some (decT w) := by
 have h0 := hw.1
 unfold chunk_Decode.f chunk_kinds.f chunk_classes.f chunk_lanes.f chunk_manys.f chunk_bits.f
 simp only [Option.bind_some, get1 f w hw, get2 f w hw, get3 f w hw, get4 f w hw, get5 f w hw]
 rw [i64w (by omega) (by omega), i64w (by omega) (by omega), i64w (by omega) (by omega), i64w (by omega) (by omega), right_eq, Option.bind_some, word_eq f _ _ _ _ _ (by omega) (by omega) (by omega) (by omega) (by omega), Option.bind_some]
 unfold decT decOk okC decC
 simp only
 cases hr : rightC (w % 8) (w / 8 % 4) (w / 32 % 64) (w / 2048 % 8192) (w / 16777216 % 256) with
 | false => simp
 | true =>
  simp only [Bool.not_true, if_true, Bool.true_and, decide_eq_true_eq]
  by_cases hlt : w < 4294967296
  ·rw [if_neg (by simp; omega), if_pos hlt]
  ·rw [if_pos (by simp; omega), if_neg hlt]
theorem refDecode_eq (f : Nat) (w : Int) (hw : Wd w) : r10_Decode.f (f + 21) w = some (decT w) := by
 have h0 := hw.1
 have h1 := hw.2
 unfold r10_Decode.f
 rw [Int.tmod_eq_emod_of_nonneg h0, Int.tdiv_eq_ediv_of_nonneg h0, Int.tdiv_eq_ediv_of_nonneg h0, Int.tdiv_eq_ediv_of_nonneg h0, Int.tdiv_eq_ediv_of_nonneg h0, Int.tdiv_eq_ediv_of_nonneg h0]
 rw [u64w (x := w / 8) (by omega) (by omega), u64w (x := w / 32) (by omega) (by omega), u64w (x := w / 2048) (by omega) (by omega), u64w (x := w / 16777216) (by omega) (by omega), u64w (x := w / 4294967296) (by omega) (by omega)]
 rw [Int.tmod_eq_emod_of_nonneg (by omega), Int.tmod_eq_emod_of_nonneg (by omega), Int.tmod_eq_emod_of_nonneg (by omega), Int.tmod_eq_emod_of_nonneg (by omega)]
 rw [i64w (by omega) (by omega), i64w (by omega) (by omega), i64w (by omega) (by omega), i64w (by omega) (by omega), refRight_eq, Option.bind_some]
 unfold decT decOk okC decC
 simp only
 cases hr : rightC (w % 8) (w / 8 % 4) (w / 32 % 64) (w / 2048 % 8192) (w / 16777216 % 256) with
 | false => simp
 | true =>
  simp only [Bool.not_true, if_true, Bool.true_and, decide_eq_true_eq]
  by_cases hlt : w < 4294967296
  ·rw [if_neg (by simp; omega), if_pos hlt]
  ·rw [if_pos (by simp; omega), if_neg hlt]
def rightM (a b c : Int) : Bool := decide (0 ≤ a ∧ a ≤ 2 ∧ 0 ≤ b ∧ b ≤ 16383 ∧ c ≤ 281474976710655 ∧ (a = 0 → b = 0))
def markT (w : Int) : Int × Int × Int × Bool := if rightM (w % 4) (w / 4 % 16384) (w / 65536) = true then (w % 4, w / 4 % 16384, w / 65536, true) else (0, 0, 0, false)
theorem markRight_eq (k : Nat) (a b c : Int) : mark_Right.f k a b c = some (rightM a b c) := by
 unfold mark_Right.f mark_End.f rightM
 by_cases h : c ≤ 281474976710655 ∧ 0 ≤ a ∧ a ≤ 2
 ·rw [if_pos (decide_eq_false (by omega)), if_pos (decide_eq_false (by omega)), if_neg (by simp; omega)]
  by_cases h0 : a = 0
  ·subst h0
   simp only [beq_self_eq_true, if_true, Option.bind_some, Bool.true_and, Bool.and_true]
   refine some_dec ?_
   simp
   omega
  ·rw [if_neg (by simpa using h0)]
   split
   ·rename_i h1
    simp at h1
    refine some_dec ?_
    simp
    omega
   ·rename_i h1
    simp at h1
    refine some_dec ?_
    simp
    omega
 ·have e : ∀ (x y : Option Bool), (if decide (c > 281474976710655) = false then if decide (a < 0) = false then if decide (a > 2) = true then some false else x else some false else some false) = some false := by
   intro x y
   split
   ·split
    ·split
     ·rfl
     ·rename_i h1 h2 h3; simp at h1 h2 h3; omega
    ·rfl
   ·rfl
  rw [e _ none]
  refine some_dec ?_
  simp
  omega
theorem refMarkRight_eq (k : Nat) (a b c : Int) : r07_Right.f k a b c = some (rightM a b c) := by
 unfold r07_Right.f rightM
 split
 ·split
  ·split
   ·split
    ·split
     ·rename_i h1 h2 h3 h4 h5
      simp at h1 h2 h3 h4 h5
      refine some_dec ?_
      simp
      omega
     ·rename_i h1 h2 h3 h4 h5
      simp at h1 h2 h3 h4 h5
      split
      ·rename_i h6
       simp at h6
       refine some_dec ?_
       simp
       omega
      ·rename_i h6
       simp at h6
       refine some_dec ?_
       simp
       omega
    ·rename_i h1 h2 h3 h4
     simp at h1 h2 h3 h4
     refine some_dec ?_
     simp
     omega
   ·rename_i h1 h2 h3
    simp at h1 h2 h3
    refine some_dec ?_
    simp
    omega
  ·rename_i h1 h2
   simp at h1 h2
   refine some_dec ?_
   simp
   omega
 ·rename_i h1
  simp at h1
  refine some_dec ?_
  simp
  omega
theorem mget0 (k : Nat) (w : Int) (hw : Wd w) : mark_get.f k w 0 = some (w % 4) := by
 have h := fget k w hw 0 2 (by omega) (by omega)
 simp at h
 unfold mark_get.f mark_place.f H.mark_place.f
 rw [if_pos rfl, Option.bind_some]
 simp only [h]
 rfl
theorem mget1 (k : Nat) (w : Int) (hw : Wd w) : mark_get.f k w 1 = some (w / 4 % 16384) := by
 have h := fget k w hw 2 14 (by omega) (by omega)
 simp at h
 unfold mark_get.f mark_place.f H.mark_place.f
 rw [if_neg (by decide), if_pos rfl, Option.bind_some]
 simp only [h]
 rfl
theorem mget2 (k : Nat) (w : Int) (hw : Wd w) : mark_get.f k w 2 = some (w / 65536) := by
 have h := fget k w hw 16 48 (by omega) (by omega)
 simp at h
 have h0 := hw.1
 have h1 := hw.2
 rw [show w / 65536 % 281474976710656 = w / 65536 by omega] at h
 unfold mark_get.f mark_place.f H.mark_place.f
 rw [if_neg (by decide), if_neg (by decide), if_pos rfl, Option.bind_some]
 simp only [h]
 rfl
theorem mark_eq (k : Nat) (w : Int) (hw : Wd w) : mark_Decode.f k w = some (markT w) := by
 unfold mark_Decode.f
 rw [mget0 k w hw, Option.bind_some, mget1 k w hw, Option.bind_some, mget2 k w hw, Option.bind_some, i64w (by omega) (by omega), i64w (by omega) (by omega), markRight_eq, Option.bind_some]
 unfold markT
 cases rightM (w % 4) (w / 4 % 16384) (w / 65536) <;> rfl
theorem refMark_eq (k : Nat) (w : Int) (hw : Wd w) : r07_Decode.f k w = some (markT w) := by
 have h0 := hw.1
 have h1 := hw.2
 unfold r07_Decode.f
 rw [Int.tmod_eq_emod_of_nonneg h0, Int.tdiv_eq_ediv_of_nonneg h0, Int.tdiv_eq_ediv_of_nonneg h0, u64w (x := w / 4) (by omega) (by omega), u64w (x := w / 65536) (by omega) (by omega), Int.tmod_eq_emod_of_nonneg (by omega), i64w (by omega) (by omega), i64w (by omega) (by omega), refMarkRight_eq, Option.bind_some]
 unfold markT
 cases rightM (w % 4) (w / 4 % 16384) (w / 65536) <;> rfl
def rightH (a b c : Int) : Bool := decide (1 ≤ a ∧ a ≤ 65535 ∧ 0 ≤ b ∧ b ≤ 4096 ∧ 1 ≤ c)
def headT (x y : Int) : Int × Int × Int × Bool := if rightH (x % 65536) (x / 65536 % 65536) y = true ∧ x / 4294967296 = 4200005632 then (x % 65536, x / 65536 % 65536, y, true) else (0, 0, 0, false)
theorem oidRight_eq (k : Nat) (a b c : Int) (hc : 0 ≤ c) : oid_Right.f k a b c = some (rightH a b c) := by
 unfold oid_Right.f rightH
 split
 ·split
  ·split
   ·split
    ·rename_i h1 h2 h3 h4
     simp at h1 h2 h3 h4
     refine some_dec ?_
     simp
     omega
    ·rename_i h1 h2 h3 h4
     simp at h1 h2 h3 h4
     refine some_dec ?_
     simp
     omega
   ·rename_i h1 h2 h3
    simp at h1 h2 h3
    refine some_dec ?_
    simp
    omega
  ·rename_i h1 h2
   simp at h1 h2
   refine some_dec ?_
   simp
   omega
 ·rename_i h1
  simp at h1
  refine some_dec ?_
  simp
  omega
theorem refOidRight_eq (k : Nat) (a b c : Int) : r08_Right.f k a b c = some (rightH a b c) := by
 unfold r08_Right.f rightH
 split
 ·split
  ·split
   ·split
    ·rename_i h1 h2 h3 h4
     simp at h1 h2 h3 h4
     refine some_dec ?_
     simp
     omega
    ·rename_i h1 h2 h3 h4
     simp at h1 h2 h3 h4
     refine some_dec ?_
     simp
     omega
   ·rename_i h1 h2 h3
    simp at h1 h2 h3
    refine some_dec ?_
    simp
    omega
  ·rename_i h1 h2
   simp at h1 h2
   refine some_dec ?_
   simp
   omega
 ·rename_i h1
  simp at h1
  refine some_dec ?_
  simp
  omega
theorem first_eq (k : Nat) (a b c : Int) (ha : 0 ≤ a ∧ a < 65536) (hb : 0 ≤ b ∧ b < 65536) : oid_first.f k a b c = some (18038886832455811072 + a + 65536 * b) := by
 unfold oid_first.f
 have p1 := fput k 18038886832455811072 a 0 16 ⟨by omega, by omega⟩ (by omega) (by omega) (by decide) (by omega) (by omega)
 have p2 := fput k (18038886832455811072 + a) b 16 16 ⟨by omega, by omega⟩ (by omega) (by omega) (by omega) (by omega) (by omega)
 simp at p1 p2
 rw [u64w (by omega) (by omega), u64w (by omega) (by omega), p1, Option.bind_some, p2, Option.bind_some]
 congr 1
 omega
theorem oidDecode_eq (k : Nat) (x y : Int) (r : List Int) (hx : Wd x) (hy : 0 ≤ y) : oid_Decode.f k (x :: y :: r) = some (headT x y) := by
 have h0 := hx.1
 have h1 := hx.2
 have p1 := fget k x hx 0 16 (by omega) (by omega)
 have p2 := fget k x hx 16 16 (by omega) (by omega)
 simp at p1 p2
 unfold oid_Decode.f
 rw [if_neg (by simp; omega)]
 have hl : (0 : Int) < ((x :: y :: r).length : Int) := by simp; omega
 have hl1 : (1 : Int) < ((x :: y :: r).length : Int) := by simp; omega
 rw [show (x :: y :: r).getD (Int.toNat 0) (0 : Int) = x from rfl, show (x :: y :: r).getD (Int.toNat 1) (0 : Int) = y from rfl]
 simp only [if_pos hl, if_pos hl1, p1, p2, Option.bind_some]
 rw [i64w (by omega) (by omega), i64w (by omega) (by omega), oidRight_eq k _ _ y hy, Option.bind_some]
 unfold headT
 cases hr : rightH (x % 65536) (x / 65536 % 65536) y with
 | false => simp
 | true =>
  rw [first_eq k _ _ _ (by omega) (by omega)]
  simp only [Bool.not_true, if_true, Option.bind_some, true_and]
  by_cases hlt : x / 4294967296 = 4200005632
  ·rw [if_neg (by simp; omega), if_pos hlt]
  ·rw [if_pos (by simp; omega), if_neg hlt]
theorem refOidDecode_eq (k : Nat) (x y : Int) (r : List Int) (hx : Wd x) : r08_Decode.f k (x :: y :: r) = some (headT x y) := by
 have h0 := hx.1
 have h1 := hx.2
 unfold r08_Decode.f
 rw [if_neg (by simp; omega)]
 have hl : (0 : Int) < ((x :: y :: r).length : Int) := by simp; omega
 have hl1 : (1 : Int) < ((x :: y :: r).length : Int) := by simp; omega
 rw [show (x :: y :: r).getD (Int.toNat 0) (0 : Int) = x from rfl, show (x :: y :: r).getD (Int.toNat 1) (0 : Int) = y from rfl]
 simp only [if_pos hl, if_pos hl1]
 rw [Int.tmod_eq_emod_of_nonneg h0, Int.tdiv_eq_ediv_of_nonneg h0, Int.tdiv_eq_ediv_of_nonneg h0, u64w (x := x / 65536) (by omega) (by omega), u64w (x := x / 4294967296) (by omega) (by omega), Int.tmod_eq_emod_of_nonneg (by omega), i64w (by omega) (by omega), i64w (by omega) (by omega), refOidRight_eq, Option.bind_some]
 unfold headT
 cases hr : rightH (x % 65536) (x / 65536 % 65536) y with
 | false => simp
 | true =>
  simp only [Bool.not_true, if_true, true_and]
  by_cases hlt : x / 4294967296 = 4200005632
  ·rw [if_neg (by simp; omega), if_pos hlt]
  ·rw [if_pos (by simp; omega), if_neg hlt]
end Go.Proofs.YtbbpcbjgekencaaGreatDoor.PS
end
section
set_option linter.unusedVariables false
set_option linter.unusedSimpArgs false
set_option linter.unusedVariables false
set_option linter.unusedSimpArgs false
namespace Go.Proofs.YtbbpcbjgekencaaGreatDoor.PS
open Go Go.Proofs.YtbbpcbjgekencaaGreatDoor.Q Go.Proofs.YtbbpcbjgekencaaGreatDoor.FT Go.Proofs.YtbbpcbjgekencaaGreatDoor.Ev
def ofS (s : Int) : Int := if s ≤ 2 then 0 else if s ≤ 6 then 1 else if s ≤ 14 then 2 else -1
def blockS (s : Int) : Int := if s ≤ 2 then 4 else if s ≤ 6 then 8 else if s ≤ 14 then 16 else 0
def chunksS (s : Int) : Int := if s ≤ 14 then 0 else (s + 33) / 32
def roomS (s : Int) : Int := blockS s + 32 * chunksS s
theorem room_eq (k : Nat) (s : Int) (h0 : 0 ≤ s) (h1 : s ≤ 4096) : class_Room.f k s = some (roomS s) := by
 unfold class_Room.f class_Of.f class_Block.f class_Chunks.f class_Right.f class_takes.f class_Of.f H.class_Of.f H.class_Block.f
 simp only [Option.bind_some]
 rw [if_pos (decide_eq_true (show s ≥ 0 by omega)), decide_eq_true (show s ≤ 4096 by omega)]
 simp only [Option.bind_some, Bool.not_true, if_true]
 unfold H.ofW roomS blockS chunksS H.blockW
 rw [if_neg (show ¬ s < 0 by omega)]
 by_cases a : s ≤ 2
 ·simp only [a, if_true, if_pos (show s ≤ 14 by omega)]
  simp [IntKind.wrap, IntKind.bits, IntKind.signed]
 by_cases b : s ≤ 6
 ·simp only [a, b, if_true, if_false, if_pos (show s ≤ 14 by omega)]
  simp [IntKind.wrap, IntKind.bits, IntKind.signed]
 by_cases c : s ≤ 14
 ·simp only [a, b, c, if_true, if_false]
  simp [IntKind.wrap, IntKind.bits, IntKind.signed]
 ·simp only [a, b, c, if_false]
  rw [if_neg (by decide)]
  simp only [Option.bind_some]
  rw [i64w (x := s + 2) (by omega) (by omega), i64w (x := s + 2 + 32) (by omega) (by omega), i64w (x := s + 2 + 32 - 1) (by omega) (by omega), Int.tdiv_eq_ediv_of_nonneg (by omega), i64w (x := (s + 2 + 32 - 1) / 32) (by omega) (by omega), i64w (x := (s + 2 + 32 - 1) / 32 * 32) (by omega) (by omega)]
  rw [if_neg (by decide), if_neg (by decide), if_neg (by decide), i64w (by omega) (by omega)]
  congr 1
  omega
theorem blk09 (k : Nat) (c : Int) : r09_Block.f k c = some (H.blockW c) := by
 unfold r09_Block.f H.blockW
 by_cases a : c = 0
 ·subst a; rfl
 by_cases b : c = 1
 ·subst b; rfl
 by_cases d : c = 2
 ·subst d; rfl
 ·simp [a, b, d]
theorem of09 (k : Nat) (s : Int) (h0 : 0 ≤ s) (h1 : s ≤ 4096) : r09_Of.f (k + 4) s = some (ofS s) := by
 unfold r09_Of.f r09_Right.f ofS
 rw [if_pos (decide_eq_true (show s ≥ 0 by omega)), decide_eq_true (show s ≤ 4096 by omega), Option.bind_some]
 rw [r09_Of.c4, if_pos rfl, if_pos (by decide), blk09, Option.bind_some, i64w (x := s + 2) (by omega) (by omega)]
 by_cases a : s ≤ 2
 ·rw [if_pos a, if_pos (by simp [H.blockW]; omega)]
 rw [if_neg a, if_neg (by simp [H.blockW]; omega)]
 rw [show IntKind.i64.wrap (0 + 1) = 1 by decide +kernel, r09_Of.c4, if_pos rfl, if_pos (by decide), blk09, Option.bind_some, i64w (x := s + 2) (by omega) (by omega)]
 by_cases b : s ≤ 6
 ·rw [if_pos b, if_pos (by simp [H.blockW]; omega)]
 rw [if_neg b, if_neg (by simp [H.blockW]; omega)]
 rw [show IntKind.i64.wrap (1 + 1) = 2 by decide +kernel, r09_Of.c4, if_pos rfl, if_pos (by decide), blk09, Option.bind_some, i64w (x := s + 2) (by omega) (by omega)]
 by_cases c : s ≤ 14
 ·rw [if_pos c, if_pos (by simp [H.blockW]; omega)]
 rw [if_neg c, if_neg (by simp [H.blockW]; omega)]
 rw [show IntKind.i64.wrap (2 + 1) = 3 by decide +kernel, r09_Of.c4, if_pos rfl, if_neg (by decide)]
theorem chunks09_l (s : Int) (h0 : 14 < s) (h1 : s ≤ 4096) : ∀ (d : Nat) (n : Int), (s + 33) / 32 - n = d → 0 ≤ n → ∀ k, r09_Chunks.c4 (k + 5 + d) s true n = some ((s + 33) / 32) := by
 intro d
 induction d with
 | zero =>
  intro n hd hn k
  rw [show k + 5 + 0 = (k + 4) + 1 by omega, r09_Chunks.c4, if_pos rfl, of09 k s (by omega) h1, Option.bind_some]
  have e : ofS s = -1 := by unfold ofS; rw [if_neg (by omega), if_neg (by omega), if_neg (by omega)]
  rw [e, if_pos (by decide), i64w (by omega) (by omega), i64w (by omega) (by omega), if_neg (by simp; omega)]
  congr 1
  omega
 | succ d ih =>
  intro n hd hn k
  rw [show k + 5 + (d + 1) = (k + d + 1 + 4) + 1 by omega, r09_Chunks.c4, if_pos rfl, of09 _ s (by omega) h1, Option.bind_some]
  have e : ofS s = -1 := by unfold ofS; rw [if_neg (by omega), if_neg (by omega), if_neg (by omega)]
  rw [e, if_pos (by decide), i64w (by omega) (by omega), i64w (by omega) (by omega), if_pos (by simp; omega), i64w (by omega) (by omega), show k + d + 1 + 4 = k + 5 + d by omega]
  exact ih (n + 1) (by omega) (by omega) k
theorem chunks09 (k : Nat) (s : Int) (h0 : 0 ≤ s) (h1 : s ≤ 4096) : r09_Chunks.f (k + 140) s = some (chunksS s) := by
 unfold r09_Chunks.f r09_Right.f chunksS
 rw [if_pos (decide_eq_true (show s ≥ 0 by omega)), decide_eq_true (show s ≤ 4096 by omega), Option.bind_some]
 by_cases a : s ≤ 14
 ·rw [if_pos a, r09_Chunks.c4, if_pos rfl, of09 _ s h0 h1, Option.bind_some, if_neg]
  unfold ofS
  simp
  split <;> (try split) <;> (try split) <;> omega
 ·rw [if_neg a]
  obtain ⟨d, hd⟩ : ∃ d : Nat, (s + 33) / 32 - 0 = (d : Int) := ⟨((s + 33) / 32).toNat, by omega⟩
  have := chunks09_l s (by omega) h1 d 0 hd (by omega) (k + 135 - d)
  rw [show k + 135 - d + 5 + d = k + 140 by omega] at this
  exact this
def chunksG (w l : Int) : Int := if 1 ≤ l ∧ l ≤ 64 ∧ w ≤ 65536 then max 0 ((w - 10 - 73 * l) / 33) else 0
theorem geoChunks_eq (k : Nat) (w l : Int) : geo_Chunks.f k w l = some (chunksG w l) := by
 unfold geo_Chunks.f geo_can.f geo_table.f geo_logs.f chunksG
 by_cases h : 1 ≤ l ∧ l ≤ 64 ∧ 1 ≤ w ∧ w ≤ 65536
 ·rw [if_pos (decide_eq_true h.1), if_pos (decide_eq_true h.2.1), if_pos (decide_eq_true h.2.2.1), decide_eq_true h.2.2.2, Option.bind_some, if_neg (by decide), if_pos (by omega)]
  simp only [Option.bind_some]
  rw [i64w (x := 10 + l) (by omega) (by omega), i64w (x := l * 72) (by omega) (by omega), i64w (x := 10 + l + l * 72) (by omega) (by omega), i64w (x := w - _) (by omega) (by omega)]
  congr 1
  unfold mx
  by_cases hp : 0 ≤ w - (10 + l + l * 72)
  ·rw [Int.tdiv_eq_ediv_of_nonneg hp, i64w (by omega) (by omega)]
   split <;> omega
  ·have h1 : (w - (10 + l + l * 72)).tdiv 33 ≤ 0 := by
    have : w - (10 + l + l * 72) = -(10 + l + l * 72 - w) := by omega
    rw [this, Int.neg_tdiv, Int.tdiv_eq_ediv_of_nonneg (by omega)]
    omega
   have h2 : -9223372036854775808 ≤ (w - (10 + l + l * 72)).tdiv 33 := by
    have : w - (10 + l + l * 72) = -(10 + l + l * 72 - w) := by omega
    rw [this, Int.neg_tdiv, Int.tdiv_eq_ediv_of_nonneg (by omega)]
    omega
   rw [i64w h2 (by omega), if_neg (by omega)]
   omega
 ·have e : ∀ (z : Option Bool), z = (if decide (l ≥ 1) = true then if decide (l ≤ 64) = true then if decide (w ≥ 1) = true then some (decide (w ≤ 65536)) else some false else some false else some false) → z = some false := by
   intro z hz
   rw [hz]
   split
   ·split
    ·split
     ·rename_i h1 h2 h3; simp at h1 h2 h3; rw [decide_eq_false (by omega)]
     ·rfl
    ·rfl
   ·rfl
  rw [e _ rfl, Option.bind_some, if_pos (by decide)]
  congr 1
  split <;> omega
theorem refChunks_l (w l : Int) (h : 1 ≤ l ∧ l ≤ 64 ∧ w ≤ 65536) : ∀ (d : Nat) (n : Int), chunksG w l - n = d → 0 ≤ n → ∀ k, r05_Chunks.c6 (k + 1 + d) n w l = some (chunksG w l) := by
 intro d
 have hg : chunksG w l = max 0 ((w - 10 - 73 * l) / 33) := by unfold chunksG; rw [if_pos h]
 induction d with
 | zero =>
  intro n hd hn k
  rw [show k + 1 + 0 = k + 1 by omega, r05_Chunks.c6, i64w (x := 73 * l) (by omega) (by omega), i64w (x := 10 + 73 * l) (by omega) (by omega), i64w (x := n + 1) (by omega) (by omega), i64w (x := 33 * (n + 1)) (by omega) (by omega), i64w (by omega) (by omega), if_neg (by simp; omega)]
  congr 1
  omega
 | succ d ih =>
  intro n hd hn k
  rw [show k + 1 + (d + 1) = (k + 1 + d) + 1 by omega, r05_Chunks.c6, i64w (x := 73 * l) (by omega) (by omega), i64w (x := 10 + 73 * l) (by omega) (by omega), i64w (x := n + 1) (by omega) (by omega), i64w (x := 33 * (n + 1)) (by omega) (by omega), i64w (by omega) (by omega), if_pos (by simp; omega)]
  exact ih (n + 1) (by omega) (by omega) k
theorem refChunks_eq (k : Nat) (w l : Int) : r05_Chunks.f (k + 2000) w l = some (chunksG w l) := by
 unfold r05_Chunks.f
 by_cases h : 1 ≤ l ∧ l ≤ 64 ∧ w ≤ 65536
 ·rw [if_pos (by simp; omega), if_pos (by simp; omega), if_neg (by simp; omega)]
  have hg : chunksG w l = max 0 ((w - 10 - 73 * l) / 33) := by unfold chunksG; rw [if_pos h]
  obtain ⟨d, hd⟩ : ∃ d : Nat, chunksG w l - 0 = (d : Int) := ⟨(chunksG w l).toNat, by omega⟩
  have := refChunks_l w l h d 0 hd (by omega) (k + 1999 - d)
  rw [show k + 1999 - d + 1 + d = k + 2000 by omega] at this
  exact this
 ·have hg : chunksG w l = 0 := by unfold chunksG; rw [if_neg h]
  rw [hg]
  split
  ·split
   ·split
    ·rfl
    ·rename_i h1 h2 h3; simp at h1 h2 h3; omega
   ·rfl
  ·rfl
def Geo (w l : Int) : Prop := 1 ≤ chunksG w l
instance (w l : Int) : Decidable (Geo w l) := inferInstanceAs (Decidable (1 ≤ chunksG w l))
theorem Geo.l {w l : Int} (h : Geo w l) : 1 ≤ l ∧ l ≤ 64 ∧ w ≤ 65536 ∧ 10 + 73 * l + 33 * chunksG w l ≤ w := by
 unfold Geo at h
 unfold chunksG at h ⊢
 split at h
 ·rename_i hc
  rw [if_pos hc]
  omega
 ·omega
def tabAt (l : Int) : Int := 10 + 73 * l
def heapAt (w l : Int) : Int := 10 + 73 * l + chunksG w l
theorem geoRight_eq (k : Nat) (w l : Int) : geo_Right.f k w l = some (decide (Geo w l)) := by
 unfold geo_Right.f Geo
 rw [geoChunks_eq, Option.bind_some]
 refine some_dec ?_
 simp
 omega
theorem refRight05_eq (k : Nat) (w l : Int) : r05_Right.f (k + 2000) w l = some (decide (Geo w l)) := by
 unfold r05_Right.f Geo
 rw [refChunks_eq, Option.bind_some]
 refine some_dec ?_
 simp
theorem geoTable_eq (k : Nat) (w l : Int) (h : Geo w l) : geo_Table.f k w l = some (tabAt l, chunksG w l) := by
 have := h.l
 unfold geo_Table.f geo_table.f geo_logs.f tabAt
 rw [geoRight_eq, Option.bind_some, decide_eq_true h, if_neg (by decide), geoChunks_eq]
 simp only [Option.bind_some]
 rw [i64w (x := 10 + l) (by omega) (by omega), i64w (x := l * 72) (by omega) (by omega), i64w (by omega) (by omega)]
 congr 2
 omega
theorem refTable_eq (k : Nat) (w l : Int) (h : Geo w l) : r05_Table.f (k + 2000) w l = some (tabAt l, chunksG w l) := by
 have := h.l
 unfold r05_Table.f tabAt
 rw [refRight05_eq, Option.bind_some, decide_eq_true h, if_neg (by decide), refChunks_eq]
 simp only [Option.bind_some]
 rw [i64w (x := 73 * l) (by omega) (by omega), i64w (by omega) (by omega)]
theorem geoChunk_eq (k : Nat) (w l i : Int) (h : Geo w l) (h0 : 0 ≤ i) (h1 : i < chunksG w l) : geo_Chunk.f k w l i = some (heapAt w l + 32 * i, 32) := by
 have := h.l
 unfold geo_Chunk.f geo_heap.f geo_table.f geo_logs.f heapAt
 rw [if_pos (by simp; omega), geoChunks_eq, Option.bind_some, if_neg (by simp; omega)]
 simp only [Option.bind_some]
 rw [i64w (x := 10 + l) (by omega) (by omega), i64w (x := l * 72) (by omega) (by omega), i64w (x := 10 + l + l * 72) (by omega) (by omega), i64w (x := 10 + l + l * 72 + _) (by omega) (by omega), i64w (x := i * 32) (by omega) (by omega), i64w (by omega) (by omega)]
 congr 2
 omega
theorem refChunk_eq (k : Nat) (w l i : Int) (h : Geo w l) (h0 : 0 ≤ i) (h1 : i < chunksG w l) : r05_Chunk.f (k + 2000) w l i = some (heapAt w l + 32 * i, 32) := by
 have := h.l
 unfold r05_Chunk.f heapAt
 rw [refChunks_eq, Option.bind_some, if_pos (by simp; omega), if_neg (by simp; omega)]
 rw [i64w (x := 73 * l) (by omega) (by omega), i64w (x := 10 + 73 * l) (by omega) (by omega), i64w (x := 10 + 73 * l + _) (by omega) (by omega), i64w (x := 32 * i) (by omega) (by omega), i64w (by omega) (by omega)]
theorem geoMark_eq (k : Nat) (w l i : Int) (h : Geo w l) (h0 : 0 ≤ i) (h1 : i < l) : geo_Mark.f k w l i = some (10 + i) := by
 have := h.l
 unfold geo_Mark.f geo_lane.f
 rw [geoRight_eq, Option.bind_some, decide_eq_true h, if_pos rfl, if_pos (by simp; omega), Option.bind_some, decide_eq_true h1, if_neg (by decide), i64w (by omega) (by omega)]
structure BlkIn (n : Int) (b : S61) : Prop where
 c0 : 0 ≤ b.f0
 c1 : b.f0 < n
 i0 : 0 ≤ b.f1
 w0 : 4 ≤ b.f2
 fit : 32 * b.f0 + b.f1 * b.f2 + b.f2 ≤ 32 * n
 iw : b.f1 = 0 ∨ b.f2 < 32
 i8 : b.f1 < 8
def placeG (w l : Int) (b : S61) : Int := heapAt w l + 32 * b.f0 + b.f1 * b.f2
theorem BlkIn.mul {n : Int} {b : S61} (h : BlkIn n b) : 0 ≤ b.f1 * b.f2 := Int.mul_nonneg h.i0 (by have := h.w0; omega)
theorem place_eq (k : Nat) (w l : Int) (b : S61) (h : Geo w l) (hb : BlkIn (chunksG w l) b) : sound_Place.f k w l b.f0 b.f1 b.f2 = some (placeG w l b) := by
 have := h.l
 have h1 := hb.mul
 have h2 := hb.fit
 have h3 := hb.w0
 have h4 := hb.c0
 unfold sound_Place.f placeG
 rw [geoChunk_eq k w l b.f0 h hb.c0 hb.c1, Option.bind_some]
 unfold heapAt
 rw [i64w (x := b.f1 * b.f2) (by omega) (by omega), i64w (by omega) (by omega)]
theorem refPlace_eq (k : Nat) (w l : Int) (b : S61) (h : Geo w l) (hb : BlkIn (chunksG w l) b) : r16_Place.f (k + 2000) w l b.f0 b.f1 b.f2 = some (placeG w l b) := by
 have := h.l
 have h1 := hb.mul
 have h2 := hb.fit
 have h3 := hb.w0
 have h4 := hb.c0
 unfold r16_Place.f placeG
 rw [refChunk_eq k w l b.f0 h hb.c0 hb.c1, Option.bind_some, Int.mul_comm b.f2 b.f1]
 unfold heapAt
 rw [i64w (x := b.f1 * b.f2) (by omega) (by omega), i64w (by omega) (by omega)]
def tabL (x : List Int) (l : Int) : List Int := List.drop (tabAt l).toNat (List.take (tabAt l + chunksG (x.length : Int) l).toNat x)
theorem table_eq (k : Nat) (x : List Int) (l : Int) (h : Geo (x.length : Int) l) : sound_pool_table.f k x (x.length : Int) l = some (tabL x l) := by
 have := h.l
 unfold sound_pool_table.f tabL
 have hg : 1 ≤ chunksG (x.length : Int) l := h
 have ht : tabAt l = 10 + 73 * l := rfl
 rw [geoTable_eq k _ l h, Option.bind_some]
 dsimp only
 rw [i64w (x := tabAt l + chunksG (x.length : Int) l) (by omega) (by omega), if_pos (by omega), if_pos (by omega), if_pos (by omega)]
theorem part_eq (k : Nat) (x : List Int) (l : Int) (h : Geo (x.length : Int) l) : r15_Part.f k x (tabAt l) (chunksG (x.length : Int) l) = some (tabL x l) := by
 have := h.l
 have hg : 1 ≤ chunksG (x.length : Int) l := h
 have ht : tabAt l = 10 + 73 * l := rfl
 unfold r15_Part.f tabL
 rw [i64w (x := tabAt l + chunksG (x.length : Int) l) (by omega) (by omega), if_pos (by omega), if_pos (by omega), if_pos (by omega)]
theorem tabL_len (x : List Int) (l : Int) (h : Geo (x.length : Int) l) : ((tabL x l).length : Int) = chunksG (x.length : Int) l := by
 have := h.l
 have hg : 1 ≤ chunksG (x.length : Int) l := h
 unfold tabL tabAt
 rw [List.length_drop, List.length_take]
 omega
theorem tabL_U64 (x : List Int) (l : Int) (hx : U64 x) : U64 (tabL x l) := fun y hy => hx y (List.mem_of_mem_take (List.mem_of_mem_drop hy))
end Go.Proofs.YtbbpcbjgekencaaGreatDoor.PS
end
