/- Numbers in a word's bits: what Get and Put answer at the chunk's places. -/
import Derived.Test.YtflbmccjfnkflaaDoorQx9
import Derived.Test.YtflbmccjfnkflaaDoorQx10
import Derived.Test.YtflbmccjfnkflaaDoorQx19
import Derived.Test.YtflbmccjfnkflaaDoorQx4
set_option linter.unusedVariables false
set_option linter.unusedSimpArgs false
namespace Go.Proofs.YtflbmccjfnkflaaDoor.Pure
open Go.RowKit Go.Proofs.YtflbmccjfnkflaaDoor.Q Go.Proofs.YtflbmccjfnkflaaDoorW.PrintWords Go.Proofs.YtflbmccjfnkflaaDoorW.PrintLast Go.Proofs.YtflbmccjfnkflaaDoorW.PrintMore

theorem w64 {x : Int} (h : -9223372036854775808 ≤ x ∧ x ≤ 9223372036854775807) : wrap64 x = x := by unfold wrap64; omega
theorem wu64 (a : Nat) (h : a < 18446744073709551616) : IntKind.u64.wrap (a : Int) = a := by
  unfold IntKind.wrap
  simp only [IntKind.bits, IntKind.signed, Bool.false_and, Bool.false_eq_true, if_false]
  omega
theorem ofInt64 (a : Nat) (h : a < 18446744073709551616) : (BitVec.ofInt IntKind.u64.bits (a : Int)).toNat = a := by
  simp only [IntKind.bits]
  rw [BitVec.toNat_ofInt]
  omega
theorem bits_and (a b : Nat) (ha : a < 18446744073709551616) (hb : b < 18446744073709551616) : Go.bits .and .u64 (a : Int) (b : Int) = ((a &&& b : Nat) : Int) := by
  unfold Go.bits
  simp only [BitVec.toNat_and, ofInt64 a ha, ofInt64 b hb]
  exact wu64 _ (Nat.lt_of_le_of_lt Nat.and_le_left ha)
theorem bits_or (a b : Nat) (ha : a < 18446744073709551616) (hb : b < 18446744073709551616) : Go.bits .or .u64 (a : Int) (b : Int) = ((a ||| b : Nat) : Int) := by
  unfold Go.bits
  simp only [BitVec.toNat_or, ofInt64 a ha, ofInt64 b hb]
  exact wu64 _ (Nat.or_lt_two_pow (n := 64) ha hb)
theorem bits_andNot (a b : Nat) (ha : a < 18446744073709551616) (hb : b < 18446744073709551616) : Go.bits .andNot .u64 (a : Int) (b : Int) = ((a &&& (18446744073709551615 - b) : Nat) : Int) := by
  unfold Go.bits
  have e : (~~~ (BitVec.ofInt IntKind.u64.bits (b : Int))).toNat = 18446744073709551615 - b := by
    rw [BitVec.toNat_not, ofInt64 b hb]
    simp only [IntKind.bits]
  simp only [BitVec.toNat_and, e, ofInt64 a ha]
  exact wu64 _ (Nat.lt_of_le_of_lt Nat.and_le_left ha)
theorem bits_mask (a n : Nat) (ha : a < 18446744073709551616) (hn : 2 ^ n - 1 < 18446744073709551616) : Go.bits .and .u64 (a : Int) ((2 ^ n - 1 : Nat) : Int) = ((a % 2 ^ n : Nat) : Int) := by
  rw [bits_and a _ ha hn, Nat.and_two_pow_sub_one_eq_mod]
theorem keepLow (w m a : Nat) (hw : w < 2 ^ a) (hm : m % 2 ^ a = 0) (h64 : m < 2 ^ 64) (hw64 : w < 2 ^ 64) : w &&& (2 ^ 64 - (m + 1)) = w := by
  apply Nat.eq_of_testBit_eq
  intro i
  rw [Nat.testBit_and, Nat.testBit_two_pow_sub_succ h64]
  by_cases hi : i < a
  · have h1 : m.testBit i = false := by
      have h := congrArg (fun x => x.testBit i) hm
      simp only [Nat.testBit_mod_two_pow, Nat.zero_testBit, hi, decide_true, Bool.true_and] at h
      exact h
    by_cases h2 : i < 64
    · simp [h1, h2]
    · have : w.testBit i = false := Nat.testBit_lt_two_pow (Nat.lt_of_lt_of_le hw64 (Nat.pow_le_pow_right (by decide) (by omega)))
      simp [this]
  · have : w.testBit i = false := Nat.testBit_lt_two_pow (Nat.lt_of_lt_of_le hw (Nat.pow_le_pow_right (by decide) (by omega)))
    simp [this]

theorem mask3 : field_mask.f 3 = some 7 := by decide +kernel
theorem mask2 : field_mask.f 2 = some 3 := by decide +kernel
theorem mask6 : field_mask.f 6 = some 63 := by decide +kernel
theorem mask13 : field_mask.f 13 = some 8191 := by decide +kernel
theorem mask8 : field_mask.f 8 = some 255 := by decide +kernel
theorem get_gen (w at_ many : Nat) (hw : w < 18446744073709551616) (hm : field_mask.f (many : Int) = some ((2 ^ many - 1 : Nat) : Int)) (hf : field_Fits.f (at_ : Int) (many : Int) = some true) (h64 : at_ < 64) (hmm : 2 ^ many - 1 < 18446744073709551616) :
    chunk_place_get.f (at_ : Int) (many : Int) (w : Int) = some ((w / 2 ^ at_ % 2 ^ many : Nat) : Int) := by
  unfold chunk_place_get.f field_Get.f
  rw [hf]
  simp only [Option.bind_some, if_true, hm]
  rw [if_pos (by omega)]
  have e : shr .u64 (w : Int) (at_ : Int) = ((w / 2 ^ at_ : Nat) : Int) := by
    unfold shr
    simp only [Int.toNat_natCast, IntKind.bits, Nat.min_eq_left (Nat.le_of_lt h64)]
    norm_cast
  rw [e, bits_mask _ _ (Nat.lt_of_le_of_lt (Nat.div_le_self _ _) hw) hmm]
  rfl
theorem put_gen (w v at_ many m : Nat) (hm : field_mask.f (many : Int) = some ((2 ^ many - 1 : Nat) : Int)) (hf : field_Fits.f (at_ : Int) (many : Int) = some true) (hw : w < 2 ^ at_) (hv : v < 2 ^ many) (hs : at_ + many ≤ 64) (h64 : at_ < 64) :
    chunk_place_put.f (at_ : Int) (many : Int) (w : Int) (v : Int) = some ((w + v * 2 ^ at_ : Nat) : Int) := by
  have hp : 2 ^ at_ * 2 ^ many ≤ 2 ^ 64 := by rw [← Nat.pow_add]; exact Nat.pow_le_pow_right (by decide) hs
  have hpos : 0 < 2 ^ at_ := Nat.two_pow_pos _
  have hpos2 : 0 < 2 ^ many := Nat.two_pow_pos _
  have hle : 2 ^ at_ ≤ 2 ^ 64 := Nat.pow_le_pow_right (by decide) (by omega)
  have hM : (2 ^ many - 1) * 2 ^ at_ < 2 ^ 64 := Nat.lt_of_lt_of_le (Nat.mul_lt_mul_of_pos_right (by omega : 2 ^ many - 1 < 2 ^ many) hpos) (by rw [Nat.mul_comm]; exact hp)
  have hV : v * 2 ^ at_ < 2 ^ 64 := Nat.lt_of_lt_of_le (Nat.mul_lt_mul_of_pos_right hv hpos) (by rw [Nat.mul_comm]; exact hp)
  have hw64 : w < 2 ^ 64 := Nat.lt_of_lt_of_le hw hle
  have shl_ : ∀ x : Nat, x * 2 ^ at_ < 2 ^ 64 → shl .u64 (x : Int) (at_ : Int) = ((x * 2 ^ at_ : Nat) : Int) := fun x hx => by
    unfold shl
    simp only [Int.toNat_natCast, IntKind.bits, Nat.min_eq_left (Nat.le_of_lt h64)]
    have e : ((x : Int) * 2 ^ at_) = ((x * 2 ^ at_ : Nat) : Int) := by norm_cast
    rw [e]
    exact wu64 _ hx
  unfold chunk_place_put.f field_Put.f
  rw [hf]
  simp only [Option.bind_some, if_true, hm]
  rw [if_pos (by omega), shl_ _ hM, shl_ _ hV]
  have e1 : Go.bits .andNot .u64 (w : Int) (((2 ^ many - 1) * 2 ^ at_ : Nat) : Int) = (w : Int) := by
    rw [bits_andNot w _ hw64 hM]
    congr 1
    have := keepLow w ((2 ^ many - 1) * 2 ^ at_) at_ hw (Nat.mul_mod_left _ _) hM hw64
    rw [← this]
    congr 1
    omega
  have e2 : Go.bits .and .u64 ((v * 2 ^ at_ : Nat) : Int) (((2 ^ many - 1) * 2 ^ at_ : Nat) : Int) = ((v * 2 ^ at_ : Nat) : Int) := by
    rw [bits_and _ _ hV hM]
    congr 1
    rw [← Nat.shiftLeft_eq, ← Nat.shiftLeft_eq, ← Nat.shiftLeft_and_distrib, Nat.and_two_pow_sub_one_eq_mod, Nat.mod_eq_of_lt hv]
  rw [e1, e2, bits_or _ _ hw64 hV]
  simp only [Option.bind_some, Option.some.injEq]
  congr 1
  rw [Nat.or_comm, Nat.mul_comm v, ← Nat.two_pow_add_eq_or_of_lt hw]
  omega
end Go.Proofs.YtflbmccjfnkflaaDoor.Pure
