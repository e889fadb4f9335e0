/- Words, chunks and tables of the tile layer: what the functions answer, as plain lists. -/
import Derived.Test.YtflbmccjfnkflaaDoorQx9
import Derived.Test.YtflbmccjfnkflaaDoorQx10
import Derived.Test.YtflbmccjfnkflaaDoorQx4
import Derived.Test.YtflbmccjfnkflaaDoorQx8
import Derived.Test.YtflbmccjfnkflaaDoorQx7
import Derived.Test.YtflbmccjfnkflaaDoorQx18
set_option linter.unusedVariables false
set_option linter.unusedSimpArgs false
namespace Go.Proofs.YtflbmccjfnkflaaDoor.Pure
open Go.RowKit Go.Proofs.YtflbmccjfnkflaaDoor.Q Go.Proofs.YtflbmccjfnkflaaDoorW.PrintWords Go.Proofs.YtflbmccjfnkflaaDoorW.PrintLast Go.Proofs.YtflbmccjfnkflaaDoorW.PrintMore
/- Numbers in a word's bits: what Get and Put answer at the chunk's places. -/

theorem w64 {x : Int} (h : -9223372036854775808 ≤ x ∧ x ≤ 9223372036854775807) : wrap64 x = x := by unfold wrap64; omega
theorem wu64 (a : Nat) (h : a < 18446744073709551616) : IntKind.u64.wrap (a : Int) = a := by
  unfold IntKind.wrap
  simp only [IntKind.bits, IntKind.signed, Bool.false_and, Bool.false_eq_true, if_false]
  omega
theorem ofInt64 (a : Nat) (h : a < 18446744073709551616) : (BitVec.ofInt IntKind.u64.bits (a : Int)).toNat = a := by
  simp only [IntKind.bits]
  rw [BitVec.toNat_ofInt]
  omega
theorem bits_and (a b : Nat) (ha : a < 18446744073709551616) (hb : b < 18446744073709551616) : Go.bits .and .u64 (a : Int) (b : Int) = ((a &&& b : Nat) : Int) := by
  unfold Go.bits
  simp only [BitVec.toNat_and, ofInt64 a ha, ofInt64 b hb]
  exact wu64 _ (Nat.lt_of_le_of_lt Nat.and_le_left ha)
theorem bits_or (a b : Nat) (ha : a < 18446744073709551616) (hb : b < 18446744073709551616) : Go.bits .or .u64 (a : Int) (b : Int) = ((a ||| b : Nat) : Int) := by
  unfold Go.bits
  simp only [BitVec.toNat_or, ofInt64 a ha, ofInt64 b hb]
  exact wu64 _ (Nat.or_lt_two_pow (n := 64) ha hb)
theorem bits_andNot (a b : Nat) (ha : a < 18446744073709551616) (hb : b < 18446744073709551616) : Go.bits .andNot .u64 (a : Int) (b : Int) = ((a &&& (18446744073709551615 - b) : Nat) : Int) := by
  unfold Go.bits
  have e : (~~~ (BitVec.ofInt IntKind.u64.bits (b : Int))).toNat = 18446744073709551615 - b := by
    rw [BitVec.toNat_not, ofInt64 b hb]
    simp only [IntKind.bits]
  simp only [BitVec.toNat_and, e, ofInt64 a ha]
  exact wu64 _ (Nat.lt_of_le_of_lt Nat.and_le_left ha)
theorem bits_mask (a n : Nat) (ha : a < 18446744073709551616) (hn : 2 ^ n - 1 < 18446744073709551616) : Go.bits .and .u64 (a : Int) ((2 ^ n - 1 : Nat) : Int) = ((a % 2 ^ n : Nat) : Int) := by
  rw [bits_and a _ ha hn, Nat.and_two_pow_sub_one_eq_mod]
theorem keepLow (w m a : Nat) (hw : w < 2 ^ a) (hm : m % 2 ^ a = 0) (h64 : m < 2 ^ 64) (hw64 : w < 2 ^ 64) : w &&& (2 ^ 64 - (m + 1)) = w := by
  apply Nat.eq_of_testBit_eq
  intro i
  rw [Nat.testBit_and, Nat.testBit_two_pow_sub_succ h64]
  by_cases hi : i < a
  · have h1 : m.testBit i = false := by
      have h := congrArg (fun x => x.testBit i) hm
      simp only [Nat.testBit_mod_two_pow, Nat.zero_testBit, hi, decide_true, Bool.true_and] at h
      exact h
    by_cases h2 : i < 64
    · simp [h1, h2]
    · have : w.testBit i = false := Nat.testBit_lt_two_pow (Nat.lt_of_lt_of_le hw64 (Nat.pow_le_pow_right (by decide) (by omega)))
      simp [this]
  · have : w.testBit i = false := Nat.testBit_lt_two_pow (Nat.lt_of_lt_of_le hw (Nat.pow_le_pow_right (by decide) (by omega)))
    simp [this]

theorem mask3 : field_mask.f 3 = some 7 := by decide +kernel
theorem mask2 : field_mask.f 2 = some 3 := by decide +kernel
theorem mask6 : field_mask.f 6 = some 63 := by decide +kernel
theorem mask13 : field_mask.f 13 = some 8191 := by decide +kernel
theorem mask8 : field_mask.f 8 = some 255 := by decide +kernel
theorem get_gen (w at_ many : Nat) (hw : w < 18446744073709551616) (hm : field_mask.f (many : Int) = some ((2 ^ many - 1 : Nat) : Int)) (hf : field_Fits.f (at_ : Int) (many : Int) = some true) (h64 : at_ < 64) (hmm : 2 ^ many - 1 < 18446744073709551616) :
    chunk_place_get.f (at_ : Int) (many : Int) (w : Int) = some ((w / 2 ^ at_ % 2 ^ many : Nat) : Int) := by
  unfold chunk_place_get.f field_Get.f
  rw [hf]
  simp only [Option.bind_some, if_true, hm]
  rw [if_pos (by omega)]
  have e : shr .u64 (w : Int) (at_ : Int) = ((w / 2 ^ at_ : Nat) : Int) := by
    unfold shr
    simp only [Int.toNat_natCast, IntKind.bits, Nat.min_eq_left (Nat.le_of_lt h64)]
    norm_cast
  rw [e, bits_mask _ _ (Nat.lt_of_le_of_lt (Nat.div_le_self _ _) hw) hmm]
  rfl
theorem put_gen (w v at_ many m : Nat) (hm : field_mask.f (many : Int) = some ((2 ^ many - 1 : Nat) : Int)) (hf : field_Fits.f (at_ : Int) (many : Int) = some true) (hw : w < 2 ^ at_) (hv : v < 2 ^ many) (hs : at_ + many ≤ 64) (h64 : at_ < 64) :
    chunk_place_put.f (at_ : Int) (many : Int) (w : Int) (v : Int) = some ((w + v * 2 ^ at_ : Nat) : Int) := by
  have hp : 2 ^ at_ * 2 ^ many ≤ 2 ^ 64 := by rw [← Nat.pow_add]; exact Nat.pow_le_pow_right (by decide) hs
  have hpos : 0 < 2 ^ at_ := Nat.two_pow_pos _
  have hpos2 : 0 < 2 ^ many := Nat.two_pow_pos _
  have hle : 2 ^ at_ ≤ 2 ^ 64 := Nat.pow_le_pow_right (by decide) (by omega)
  have hM : (2 ^ many - 1) * 2 ^ at_ < 2 ^ 64 := Nat.lt_of_lt_of_le (Nat.mul_lt_mul_of_pos_right (by omega : 2 ^ many - 1 < 2 ^ many) hpos) (by rw [Nat.mul_comm]; exact hp)
  have hV : v * 2 ^ at_ < 2 ^ 64 := Nat.lt_of_lt_of_le (Nat.mul_lt_mul_of_pos_right hv hpos) (by rw [Nat.mul_comm]; exact hp)
  have hw64 : w < 2 ^ 64 := Nat.lt_of_lt_of_le hw hle
  have shl_ : ∀ x : Nat, x * 2 ^ at_ < 2 ^ 64 → shl .u64 (x : Int) (at_ : Int) = ((x * 2 ^ at_ : Nat) : Int) := fun x hx => by
    unfold shl
    simp only [Int.toNat_natCast, IntKind.bits, Nat.min_eq_left (Nat.le_of_lt h64)]
    have e : ((x : Int) * 2 ^ at_) = ((x * 2 ^ at_ : Nat) : Int) := by norm_cast
    rw [e]
    exact wu64 _ hx
  unfold chunk_place_put.f field_Put.f
  rw [hf]
  simp only [Option.bind_some, if_true, hm]
  rw [if_pos (by omega), shl_ _ hM, shl_ _ hV]
  have e1 : Go.bits .andNot .u64 (w : Int) (((2 ^ many - 1) * 2 ^ at_ : Nat) : Int) = (w : Int) := by
    rw [bits_andNot w _ hw64 hM]
    congr 1
    have := keepLow w ((2 ^ many - 1) * 2 ^ at_) at_ hw (Nat.mul_mod_left _ _) hM hw64
    rw [← this]
    congr 1
    omega
  have e2 : Go.bits .and .u64 ((v * 2 ^ at_ : Nat) : Int) (((2 ^ many - 1) * 2 ^ at_ : Nat) : Int) = ((v * 2 ^ at_ : Nat) : Int) := by
    rw [bits_and _ _ hV hM]
    congr 1
    rw [← Nat.shiftLeft_eq, ← Nat.shiftLeft_eq, ← Nat.shiftLeft_and_distrib, Nat.and_two_pow_sub_one_eq_mod, Nat.mod_eq_of_lt hv]
  rw [e1, e2, bits_or _ _ hw64 hV]
  simp only [Option.bind_some, Option.some.injEq]
  congr 1
  rw [Nat.or_comm, Nat.mul_comm v, ← Nat.two_pow_add_eq_or_of_lt hw]
  omega
/- The chunk that can be. -/
theorem someB {a b : Bool} (h : a = true ↔ b = true) : some a = some b := by rw [Bool.eq_iff_iff.2 h]
theorem shl8 : shl .u64 1 8 = 256 := by decide +kernel
theorem shl4 : shl .u64 1 4 = 16 := by decide +kernel
theorem shl2 : shl .u64 1 2 = 4 := by decide +kernel
theorem right_eq (k c l m b : Int) : chunk_Right.f k c l m b = some (refRight k c l m b) := by
  unfold chunk_Right.f chunk_right.f chunk_own.f refRight
  by_cases k1 : k = 1
  · subst k1
    simp only [if_true, show ¬((1 : Int) = 0 ∨ (1 : Int) = 3) by omega, if_false]
    by_cases c0 : c ≥ 0
    · rw [if_pos c0]
      by_cases c3 : c < 3
      · rw [if_pos c3]
        unfold class_Many.f
        simp only [Option.bind_some]
        rcases (show c = 0 ∨ c = 1 ∨ c = 2 by omega) with rfl | rfl | rfl
        · simp only [manyW, if_true, show (0 : Int) ≤ 8 by omega, shl8, Option.bind_some, decide_eq_true_eq]
          split
          · (try simp only [Option.bind_some]); refine someB ?_; simp only [Bool.and_eq_true, beq_iff_eq, decide_eq_true_eq]; (try simp only [true_and, and_true, false_and, and_false, or_false, false_or, true_or, or_true, true_iff, iff_true]) <;> omega
          · refine someB ?_; simp only [decide_eq_true_eq, Bool.false_eq_true, false_iff]; (try simp only [true_and, and_true, false_and, and_false, or_false, false_or, true_or, or_true, true_iff, iff_true]) <;> omega
        · simp only [manyW, show ¬((1 : Int) = 0) by omega, if_false, if_true, show (0 : Int) ≤ 4 by omega, shl4, Option.bind_some, decide_eq_true_eq]
          split
          · (try simp only [Option.bind_some]); refine someB ?_; simp only [Bool.and_eq_true, beq_iff_eq, decide_eq_true_eq]; (try simp only [true_and, and_true, false_and, and_false, or_false, false_or, true_or, or_true, true_iff, iff_true]) <;> omega
          · refine someB ?_; simp only [decide_eq_true_eq, Bool.false_eq_true, false_iff]; (try simp only [true_and, and_true, false_and, and_false, or_false, false_or, true_or, or_true, true_iff, iff_true]) <;> omega
        · simp only [manyW, show ¬((2 : Int) = 0) by omega, show ¬((2 : Int) = 1) by omega, if_false, if_true, show (0 : Int) ≤ 2 by omega, shl2, Option.bind_some, decide_eq_true_eq]
          split
          · (try simp only [Option.bind_some]); refine someB ?_; simp only [Bool.and_eq_true, beq_iff_eq, decide_eq_true_eq]; (try simp only [true_and, and_true, false_and, and_false, or_false, false_or, true_or, or_true, true_iff, iff_true]) <;> omega
          · refine someB ?_; simp only [decide_eq_true_eq, Bool.false_eq_true, false_iff]; (try simp only [true_and, and_true, false_and, and_false, or_false, false_or, true_or, or_true, true_iff, iff_true]) <;> omega
      · rw [if_neg c3]
        (try simp only [Option.bind_some, Bool.false_eq_true, if_false]); refine someB ?_; simp only [decide_eq_true_eq, Bool.false_eq_true, false_iff]; (try simp only [true_and, and_true, false_and, and_false, or_false, false_or, true_or, or_true, true_iff, iff_true]) <;> omega
    · rw [if_neg c0]
      (try simp only [Option.bind_some, Bool.false_eq_true, if_false]); refine someB ?_; simp only [decide_eq_true_eq, Bool.false_eq_true, false_iff]; (try simp only [true_and, and_true, false_and, and_false, or_false, false_or, true_or, or_true, true_iff, iff_true]) <;> omega
  by_cases k2 : k = 2
  · subst k2
    simp only [if_true, if_false, show ¬((2 : Int) = 0 ∨ (2 : Int) = 3) by omega, show ¬((2 : Int) = 1) by omega]
    by_cases m1 : m ≥ 1
    · rw [if_pos m1]
      by_cases m2 : m ≤ 8191
      · (try simp only [m2, decide_true, Option.bind_some, if_true]); refine someB ?_; simp only [Bool.and_eq_true, beq_iff_eq, decide_eq_true_eq]; (try simp only [true_and, and_true, false_and, and_false, or_false, false_or, true_or, or_true, true_iff, iff_true]) <;> omega
      · rw [show decide (m ≤ 8191) = false by simpa using m2]; (try simp only [Option.bind_some, Bool.false_eq_true, if_false]); refine someB ?_; simp only [decide_eq_true_eq, Bool.false_eq_true, false_iff]; (try simp only [true_and, and_true, false_and, and_false, or_false, false_or, true_or, or_true, true_iff, iff_true]) <;> omega
    · rw [if_neg m1]
      (try simp only [Option.bind_some, Bool.false_eq_true, if_false]); refine someB ?_; simp only [decide_eq_true_eq, Bool.false_eq_true, false_iff]; (try simp only [true_and, and_true, false_and, and_false, or_false, false_or, true_or, or_true, true_iff, iff_true]) <;> omega
  by_cases k4 : k = 4
  · subst k4
    simp only [if_true, if_false, show ¬((4 : Int) = 0 ∨ (4 : Int) = 3) by omega, show ¬((4 : Int) = 1) by omega, show ¬((4 : Int) = 2) by omega]
    by_cases hh : 0 ≤ l ∧ l < 64 ∧ 0 ≤ m ∧ m < 8
    · rw [if_pos hh.1, if_pos hh.2.1, if_pos hh.2.2.1]
      (try simp only [hh.2.2.2, decide_true, Option.bind_some, if_true]); refine someB ?_; simp only [Bool.and_eq_true, beq_iff_eq, decide_eq_true_eq]; (try simp only [true_and, and_true, false_and, and_false, or_false, false_or, true_or, or_true, true_iff, iff_true]) <;> omega
    · have e : (if l ≥ 0 then (if l < 64 then (if m ≥ 0 then (some (decide (m < 8))) else (some false)) else (some false)) else (some false)) = some false := by
        split
        · split
          · split
            · simp only [Option.some.injEq, decide_eq_false_iff_not]; omega
            · rfl
          · rfl
        · rfl
      rw [e]
      (try simp only [Option.bind_some, Bool.false_eq_true, if_false]); refine someB ?_; simp only [decide_eq_true_eq, Bool.false_eq_true, false_iff]; (try simp only [true_and, and_true, false_and, and_false, or_false, false_or, true_or, or_true, true_iff, iff_true]) <;> omega
  simp only [k1, k2, k4, if_false]
  by_cases k0 : k = 0
  · subst k0
    (try simp only [if_true, Option.bind_some, true_or]); refine someB ?_; simp only [Bool.and_eq_true, beq_iff_eq, decide_eq_true_eq]; (try simp only [true_and, and_true, false_and, and_false, or_false, false_or, true_or, or_true, true_iff, iff_true]) <;> omega
  by_cases k3 : k = 3
  · subst k3
    (try simp only [if_true, if_false, Option.bind_some, or_true]); refine someB ?_; simp only [Bool.and_eq_true, beq_iff_eq, decide_eq_true_eq, show ¬((3 : Int) = 0) by omega, show ((3 : Int) == 3) = true from rfl]; (try simp only [true_and, and_true, false_and, and_false, or_false, false_or, true_or, or_true, true_iff, iff_true]) <;> omega
  have e3 : (k == 3) = false := by simpa using k3
  simp only [k0, k3, e3, if_false, or_self, Option.bind_some, Bool.false_eq_true]
/- The chunk of a word: what Decode and the reference's answer. -/
/-- The chunk of a word, or none. -/
def decT (w : Nat) : Int × Int × Int × Int × Int × Bool :=
  if refRight ((w % 8 : Nat) : Int) ((w / 8 % 4 : Nat) : Int) ((w / 32 % 64 : Nat) : Int) ((w / 2048 % 8192 : Nat) : Int) ((w / 16777216 % 256 : Nat) : Int) = true ∧ w < 4294967296 then
    (((w % 8 : Nat) : Int), ((w / 8 % 4 : Nat) : Int), ((w / 32 % 64 : Nat) : Int), ((w / 2048 % 8192 : Nat) : Int), ((w / 16777216 % 256 : Nat) : Int), true)
  else (0, 0, 0, 0, 0, false)
theorem word_eq (k c l m b : Nat) (hk : k < 8) (hc : c < 4) (hl : l < 64) (hm : m < 8192) (hb : b < 256) : chunk_word.f (k : Int) (c : Int) (l : Int) (m : Int) (b : Int) = some ((k + 8 * c + 32 * l + 2048 * m + 16777216 * b : Nat) : Int) := by
  unfold chunk_word.f
  rw [wu64 k (by omega), wu64 c (by omega), wu64 l (by omega), wu64 m (by omega)]
  have p1 := put_gen 0 k 0 3 7 mask3 (by decide +kernel) (by omega) (by omega) (by omega) (by omega)
  have p2 := put_gen (0 + k * 2 ^ 0) c 3 2 3 mask2 (by decide +kernel) (by omega) (by omega) (by omega) (by omega)
  have p3 := put_gen (0 + k * 2 ^ 0 + c * 2 ^ 3) l 5 6 63 mask6 (by decide +kernel) (by omega) (by omega) (by omega) (by omega)
  have p4 := put_gen (0 + k * 2 ^ 0 + c * 2 ^ 3 + l * 2 ^ 5) m 11 13 8191 mask13 (by decide +kernel) (by omega) (by omega) (by omega) (by omega)
  have p5 := put_gen (0 + k * 2 ^ 0 + c * 2 ^ 3 + l * 2 ^ 5 + m * 2 ^ 11) b 24 8 255 mask8 (by decide +kernel) (by omega) (by omega) (by omega) (by omega)
  rw [show ((0 : Nat) : Int) = 0 from rfl] at p1
  simp only [Int.cast_ofNat_Int] at p1 p2 p3 p4 p5
  rw [p1, Option.bind_some, p2, Option.bind_some, p3, Option.bind_some, p4, Option.bind_some, p5]
  congr 2
  omega
theorem get1 (w : Nat) (hw : w < 18446744073709551616) : chunk_place_get.f 0 3 (w : Int) = some ((w % 8 : Nat) : Int) := by
  have g := get_gen w 0 3 hw mask3 (by decide +kernel) (by omega) (by omega)
  rw [show w / 2 ^ 0 % 2 ^ 3 = w % 8 by omega] at g
  exact g
theorem get2 (w : Nat) (hw : w < 18446744073709551616) : chunk_place_get.f 3 2 (w : Int) = some ((w / 8 % 4 : Nat) : Int) := by
  have g := get_gen w 3 2 hw mask2 (by decide +kernel) (by omega) (by omega)
  rw [show w / 2 ^ 3 % 2 ^ 2 = w / 8 % 4 by omega] at g
  exact g
theorem get3 (w : Nat) (hw : w < 18446744073709551616) : chunk_place_get.f 5 6 (w : Int) = some ((w / 32 % 64 : Nat) : Int) := by
  have g := get_gen w 5 6 hw mask6 (by decide +kernel) (by omega) (by omega)
  rw [show w / 2 ^ 5 % 2 ^ 6 = w / 32 % 64 by omega] at g
  exact g
theorem get4 (w : Nat) (hw : w < 18446744073709551616) : chunk_place_get.f 11 13 (w : Int) = some ((w / 2048 % 8192 : Nat) : Int) := by
  have g := get_gen w 11 13 hw mask13 (by decide +kernel) (by omega) (by omega)
  rw [show w / 2 ^ 11 % 2 ^ 13 = w / 2048 % 8192 by omega] at g
  exact g
theorem get5 (w : Nat) (hw : w < 18446744073709551616) : chunk_place_get.f 24 8 (w : Int) = some ((w / 16777216 % 256 : Nat) : Int) := by
  have g := get_gen w 24 8 hw mask8 (by decide +kernel) (by omega) (by omega)
  rw [show w / 2 ^ 24 % 2 ^ 8 = w / 16777216 % 256 by omega] at g
  exact g
theorem dec_tail (w k c l m b : Nat) (hk : k < 8) (hc : c < 4) (hl : l < 64) (hm : m < 8192) (hb : b < 256) :
    ((chunk_Right.f (wrap64 (k : Int)) (wrap64 (c : Int)) (wrap64 (l : Int)) (wrap64 (m : Int)) (b : Int)).bind fun t142 => (if t142 = true then ((chunk_word.f (wrap64 (k : Int)) (wrap64 (c : Int)) (wrap64 (l : Int)) (wrap64 (m : Int)) (b : Int)).bind fun t143 => (if t143 = (w : Int) then (some (wrap64 (k : Int), wrap64 (c : Int), wrap64 (l : Int), wrap64 (m : Int), (b : Int), true)) else (some (0, 0, 0, 0, 0, false)))) else (some (0, 0, 0, 0, 0, false))))
    = some (if refRight (k : Int) (c : Int) (l : Int) (m : Int) (b : Int) = true ∧ k + 8 * c + 32 * l + 2048 * m + 16777216 * b = w then ((k : Int), (c : Int), (l : Int), (m : Int), (b : Int), true) else (0, 0, 0, 0, 0, false)) := by
  rw [w64 (x := (k : Int)) (by omega), w64 (x := (c : Int)) (by omega), w64 (x := (l : Int)) (by omega), w64 (x := (m : Int)) (by omega), right_eq, word_eq k c l m b hk hc hl hm hb]
  simp only [Option.bind_some]
  by_cases hr : refRight (k : Int) (c : Int) (l : Int) (m : Int) (b : Int) = true
  · rw [if_pos hr]
    by_cases hlt : k + 8 * c + 32 * l + 2048 * m + 16777216 * b = w
    · rw [if_pos (show ((k + 8 * c + 32 * l + 2048 * m + 16777216 * b : Nat) : Int) = (w : Int) by omega), if_pos ⟨hr, hlt⟩]
    · rw [if_neg (show ¬ (((k + 8 * c + 32 * l + 2048 * m + 16777216 * b : Nat) : Int) = (w : Int)) by omega), if_neg (fun h => hlt h.2)]
  · rw [if_neg hr, if_neg (fun h => hr h.1)]
theorem sum_iff (w : Nat) : w % 8 + 8 * (w / 8 % 4) + 32 * (w / 32 % 64) + 2048 * (w / 2048 % 8192) + 16777216 * (w / 16777216 % 256) = w ↔ w < 4294967296 := by omega
theorem decode_gen (w k c l m b : Nat) (hk : k < 8) (hc : c < 4) (hl : l < 64) (hm : m < 8192) (hb : b < 256) (g1 : chunk_place_get.f 0 3 (w : Int) = some (k : Int)) (g2 : chunk_place_get.f 3 2 (w : Int) = some (c : Int))
    (g3 : chunk_place_get.f 5 6 (w : Int) = some (l : Int)) (g4 : chunk_place_get.f 11 13 (w : Int) = some (m : Int)) (g5 : chunk_place_get.f 24 8 (w : Int) = some (b : Int)) :
    chunk_Decode.f (w : Int) = some (if refRight (k : Int) (c : Int) (l : Int) (m : Int) (b : Int) = true ∧ k + 8 * c + 32 * l + 2048 * m + 16777216 * b = w then ((k : Int), (c : Int), (l : Int), (m : Int), (b : Int), true) else (0, 0, 0, 0, 0, false)) := by
  unfold chunk_Decode.f chunk_kinds.f chunk_classes.f chunk_lanes.f chunk_manys.f chunk_bits.f
  rw [Option.bind_some, show chunk_place_get.f ((0 : Int), (3 : Int)).1 ((0 : Int), (3 : Int)).2 (w : Int) = some (k : Int) from g1, Option.bind_some]
  rw [Option.bind_some, show chunk_place_get.f ((3 : Int), (2 : Int)).1 ((3 : Int), (2 : Int)).2 (w : Int) = some (c : Int) from g2, Option.bind_some]
  rw [Option.bind_some, show chunk_place_get.f ((5 : Int), (6 : Int)).1 ((5 : Int), (6 : Int)).2 (w : Int) = some (l : Int) from g3, Option.bind_some]
  rw [Option.bind_some, show chunk_place_get.f ((11 : Int), (13 : Int)).1 ((11 : Int), (13 : Int)).2 (w : Int) = some (m : Int) from g4, Option.bind_some]
  rw [Option.bind_some, show chunk_place_get.f ((24 : Int), (8 : Int)).1 ((24 : Int), (8 : Int)).2 (w : Int) = some (b : Int) from g5, Option.bind_some]
  exact dec_tail w k c l m b hk hc hl hm hb
/-- The chunk of a word's parts, or none. -/
def decP (k c l m b : Nat) (ok : Prop) [Decidable ok] : Int × Int × Int × Int × Int × Bool :=
  if refRight (k : Int) (c : Int) (l : Int) (m : Int) (b : Int) = true ∧ ok then ((k : Int), (c : Int), (l : Int), (m : Int), (b : Int), true) else (0, 0, 0, 0, 0, false)
theorem decP_congr (k c l m b : Nat) (p q : Prop) [Decidable p] [Decidable q] (h : p ↔ q) : decP k c l m b p = decP k c l m b q := by
  unfold decP
  by_cases hx : refRight (k : Int) (c : Int) (l : Int) (m : Int) (b : Int) = true ∧ p
  · rw [if_pos hx, if_pos ⟨hx.1, h.1 hx.2⟩]
  · rw [if_neg hx, if_neg (fun hh => hx ⟨hh.1, h.2 hh.2⟩)]
theorem decT_eq (w : Nat) : decT w = decP (w % 8) (w / 8 % 4) (w / 32 % 64) (w / 2048 % 8192) (w / 16777216 % 256) (w < 4294967296) := rfl
theorem decode_eq (w : Nat) (hw : w < 18446744073709551616) : chunk_Decode.f (w : Int) = some (decT w) := by
  rw [decT_eq, decP_congr _ _ _ _ _ _ _ (sum_iff w).symm]
  exact decode_gen w _ _ _ _ _ (by omega) (by omega) (by omega) (by omega) (by omega) (get1 w hw) (get2 w hw) (get3 w hw) (get4 w hw) (get5 w hw)
abbrev Chk := S29
abbrev Blk := S42
theorem rdC (l : List Chk) (i : Nat) (h : i < l.length) : rd_T29 l (i : Int) = l[i] := by simp [rd_T29, h]
theorem rdI (l : List Int) (i : Nat) (h : i < l.length) : rd l (i : Int) = l[i] := by simp [rd, h]
theorem ev_some {α : Type} (r : α) : Ev (fun _ => some r) r := ⟨0, fun _ _ => rfl⟩
theorem ev_next {α : Type} {g f : Nat → Option α} {r : α} (h : ∀ k, g (k + 1) = f k) (k : Ev f r) : Ev g r := Ev.step h k
/-! the chunks of words -/
def decC (w : Int) : Chk := ⟨(decT w.toNat).1, (decT w.toNat).2.1, (decT w.toNat).2.2.1, (decT w.toNat).2.2.2.1, (decT w.toNat).2.2.2.2.1⟩
def decOk (w : Int) : Bool := (decT w.toNat).2.2.2.2.2
def U64 (l : List Int) : Prop := ∀ x ∈ l, 0 ≤ x ∧ x < 18446744073709551616
theorem decode_int (w : Int) (h : 0 ≤ w ∧ w < 18446744073709551616) : chunk_Decode.f w = some (decT w.toNat) := by
  have := decode_eq w.toNat (by omega)
  rw [Int.toNat_of_nonneg h.1] at this; exact this
def chV (l : List Int) : List Chk × Bool := if l.all decOk = true then (l.map decC, true) else ([], false)
def chGo (acc : List Chk) (l : List Int) : List Chk × Bool := if l.all decOk = true then (acc ++ l.map decC, true) else ([], false)
theorem chGo_cons_ok (acc : List Chk) (w : Int) (l : List Int) (h : decOk w = true) : chGo acc (w :: l) = chGo (acc ++ [decC w]) l := by
  simp [chGo, h]
theorem chGo_cons_no (acc : List Chk) (w : Int) (l : List Int) (h : ¬ decOk w = true) : chGo acc (w :: l) = ([], false) := by
  simp [chGo, h]
theorem chGo_nil (acc : List Chk) (l : List Int) (h : l = []) : chGo acc l = (acc, true) := by subst h; simp [chGo]
theorem chunks_l0 (l : List Int) (hl : l.length ≤ 1048576) (hw : U64 l) : ∀ (d i : Nat) (acc : List Chk), l.length - i = d → i ≤ l.length → acc.length = i →
    Ev (fun k => tile_Chunks.l0 k acc l (l.length : Int) (i : Int)) (chGo acc (l.drop i)) := by
  intro d
  induction d with
  | zero =>
    intro i acc hd hi ha
    obtain rfl : i = l.length := by omega
    rw [chGo_nil acc (l.drop l.length) (by simp)]
    exact ev_next (f := fun _ => some (acc, true)) (fun k => by simp only [tile_Chunks.l0]; rw [if_neg (by omega)]) (ev_some _)
  | succ d ih =>
    intro i acc hd hi ha
    have hlt : i < l.length := by omega
    have hx := decode_int l[i] (hw _ (List.getElem_mem hlt))
    rw [List.drop_eq_getElem_cons hlt]
    by_cases ho : decOk l[i] = true
    · rw [chGo_cons_ok _ _ _ ho]
      refine ev_next (f := fun k => tile_Chunks.l0 k (acc ++ [decC l[i]]) l (l.length : Int) ((i + 1 : Nat) : Int)) (fun k => ?_) (ih (i + 1) (acc ++ [decC l[i]]) (by omega) (by omega) (by simp [ha]))
      simp only [tile_Chunks.l0]
      rw [if_pos (by omega), if_pos (by omega), if_pos (by omega), rdI l i hlt, hx, Option.bind_some, if_pos (show (decT l[i].toNat).2.2.2.2.2 = true from ho), if_pos (by omega), w64 (by omega)]
      rfl
    · rw [chGo_cons_no _ _ _ ho]
      refine ev_next (f := fun _ => some ([], false)) (fun k => ?_) (ev_some _)
      simp only [tile_Chunks.l0]
      rw [if_pos (by omega), if_pos (by omega), if_pos (by omega), rdI l i hlt, hx, Option.bind_some, if_neg (show ¬ (decT l[i].toNat).2.2.2.2.2 = true from ho)]
theorem chunks_ev (l : List Int) (hl : l.length ≤ 1048576) (hw : U64 l) : Ev (fun k => tile_Chunks.f k l) (chV l) := by
  have h := chunks_l0 l hl hw l.length 0 [] (by omega) (by omega) rfl
  simpa [tile_Chunks.f, chV, chGo] using h
theorem chV_len (l : List Int) : (chV l).1.length ≤ l.length := by unfold chV; split <;> simp

/-! what a chunk can be -/
def okC (c : Chk) : Prop := refRight c.f0 c.f1 c.f2 c.f3 c.f4 = true ∧ 0 ≤ c.f4
theorem okC_kind {c : Chk} (h : okC c) : c.f0 = 0 ∨ c.f0 = 1 ∨ c.f0 = 2 ∨ c.f0 = 3 ∨ c.f0 = 4 := by
  have h := h.1
  unfold refRight at h
  split at h
  · omega
  · split at h
    · omega
    · split at h
      · omega
      · split at h
        · omega
        · cases h
theorem okC_run {c : Chk} (h : okC c) (k : c.f0 = 1) : c.f2 = 0 ∧ c.f3 = 0 ∧ ((c.f1 = 0 ∧ c.f4 < 256) ∨ (c.f1 = 1 ∧ c.f4 < 16) ∨ (c.f1 = 2 ∧ c.f4 < 4)) := by
  have h := h.1
  unfold refRight at h
  rw [if_neg (by omega), if_pos k] at h
  exact of_decide_eq_true h
theorem okC_huge {c : Chk} (h : okC c) (k : c.f0 = 2) : c.f1 = 0 ∧ c.f2 = 0 ∧ c.f4 = 0 ∧ 1 ≤ c.f3 ∧ c.f3 ≤ 8191 := by
  have h := h.1
  unfold refRight at h
  rw [if_neg (by omega), if_neg (by omega), if_pos k] at h
  exact of_decide_eq_true h
theorem okC_log {c : Chk} (h : okC c) (k : c.f0 = 4) : c.f1 = 0 ∧ c.f4 = 0 ∧ 0 ≤ c.f2 ∧ c.f2 ≤ 63 ∧ 0 ≤ c.f3 ∧ c.f3 ≤ 7 := by
  have h := h.1
  unfold refRight at h
  rw [if_neg (by omega), if_neg (by omega), if_neg (by omega), if_pos k] at h
  exact of_decide_eq_true h
theorem okC_plain {c : Chk} (h : okC c) (k : c.f0 = 0 ∨ c.f0 = 3) : c.f1 = 0 ∧ c.f2 = 0 ∧ c.f3 = 0 ∧ c.f4 = 0 := by
  have h := h.1
  unfold refRight at h
  rw [if_pos k] at h
  exact of_decide_eq_true h
/-- A chunk's word. -/
def encC (c : Chk) : Int := c.f0 + 8 * c.f1 + 32 * c.f2 + 2048 * c.f3 + 16777216 * c.f4
theorem okC_range {c : Chk} (h : okC c) : 0 ≤ c.f0 ∧ c.f0 < 8 ∧ 0 ≤ c.f1 ∧ c.f1 < 4 ∧ 0 ≤ c.f2 ∧ c.f2 < 64 ∧ 0 ≤ c.f3 ∧ c.f3 < 8192 ∧ 0 ≤ c.f4 ∧ c.f4 < 256 := by
  have h4 := h.2
  rcases okC_kind h with k | k | k | k | k
  · have := okC_plain h (Or.inl k); omega
  · have := okC_run h k; omega
  · have := okC_huge h k; omega
  · have := okC_plain h (Or.inr k); omega
  · have := okC_log h k; omega
theorem decT_enc {c : Chk} (h : okC c) : decT (encC c).toNat = (c.f0, c.f1, c.f2, c.f3, c.f4, true) := by
  have hr := okC_range h
  have e0 : (((encC c).toNat % 8 : Nat) : Int) = c.f0 := by unfold encC; omega
  have e1 : (((encC c).toNat / 8 % 4 : Nat) : Int) = c.f1 := by unfold encC; omega
  have e2 : (((encC c).toNat / 32 % 64 : Nat) : Int) = c.f2 := by unfold encC; omega
  have e3 : (((encC c).toNat / 2048 % 8192 : Nat) : Int) = c.f3 := by unfold encC; omega
  have e4 : (((encC c).toNat / 16777216 % 256 : Nat) : Int) = c.f4 := by unfold encC; omega
  unfold decT
  rw [e0, e1, e2, e3, e4, if_pos ⟨h.1, by unfold encC; omega⟩]
theorem decC_enc {c : Chk} (h : okC c) : decC (encC c) = c := by
  unfold decC; rw [decT_enc h]
theorem decOk_enc {c : Chk} (h : okC c) : decOk (encC c) = true := by
  unfold decOk; rw [decT_enc h]
theorem chV_enc (cs : List Chk) (h : ∀ c ∈ cs, okC c) : chV (cs.map encC) = (cs, true) := by
  unfold chV
  have h1 : (cs.map encC).all decOk = true := by
    rw [List.all_eq_true]
    intro w hw
    obtain ⟨c, hc, rfl⟩ := List.mem_map.1 hw
    exact decOk_enc (h c hc)
  rw [if_pos h1]
  congr 1
  rw [List.map_map]
  have : ∀ c ∈ cs, (decC ∘ encC) c = c := fun c hc => decC_enc (h c hc)
  exact (List.map_congr_left this).trans (List.map_id cs)
theorem U64_enc (cs : List Chk) (h : ∀ c ∈ cs, okC c) : U64 (cs.map encC) := by
  intro w hw
  obtain ⟨c, hc, rfl⟩ := List.mem_map.1 hw
  have := okC_range (h c hc)
  unfold encC; omega

/-! Right -/
def rightGo : Int → List Chk → Bool
  | T, [] => T == 0
  | T, c :: cs => if ((c.f0 == 3) != decide (T > 0)) = true then false else if c.f0 = 3 then rightGo (T - 1) cs else if c.f0 = 2 then rightGo (c.f3 - 1) cs else rightGo T cs
/-! the reference's tails -/
theorem u16_range {x : Int} (h : (Lit.int .u16 x).wf = true) : 0 ≤ x ∧ x ≤ 65535 := by
  have h1 : IntKind.u16.min = 0 := by decide
  have h2 : IntKind.u16.max = 65535 := by decide
  simp only [Lit.wf, Bool.and_eq_true, decide_eq_true_eq] at h
  omega
end Go.Proofs.YtflbmccjfnkflaaDoor.Pure
