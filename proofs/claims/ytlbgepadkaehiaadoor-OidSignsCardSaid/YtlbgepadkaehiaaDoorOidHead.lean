/- Headers: their words. -/
import Derived.Test.YtlbgepadkaehiaaDoorOidSplit
import Derived.Test.YtlbgepadkaehiaaDoorQx10
import Derived.Test.YtlbgepadkaehiaaDoorQx23
import Derived.Test.YtlbgepadkaehiaaDoorQx22
import Derived.Test.YtlbgepadkaehiaaDoorQx24
import Derived.Test.YtlbgepadkaehiaaDoorQx16
set_option linter.unusedVariables false
set_option linter.unusedSimpArgs false
namespace Go.Proofs.YtlbgepadkaehiaaDoor.Pure
open Go.RowKit Go.Proofs.YtlbgepadkaehiaaDoor.Q Go.Proofs.YtlbgepadkaehiaaDoorW.PrintWords Go.Proofs.YtlbgepadkaehiaaDoorW.PrintLast
theorem ev_some {α : Type} (r : α) : Ev (fun _ => some r) r := ⟨0, fun _ _ => rfl⟩
theorem ev_next {α : Type} {g f : Nat → Option α} {r : α} (h : ∀ k, g (k + 1) = f k) (k : Ev f r) : Ev g r := Ev.step h k
theorem ev_eq {α : Type} {g : Nat → Option α} {r r' : α} (h : Ev g r) (e : r = r') : Ev g r' := e ▸ h
theorem rdI (l : List Int) (i : Nat) (h : i < l.length) : rd l (i : Int) = l[i] := by simp [rd, h]
theorem w64 {x : Int} (h : -9223372036854775808 ≤ x ∧ x ≤ 9223372036854775807) : wrap64 x = x := by unfold wrap64; omega
theorem wu64 (a : Nat) (h : a < 18446744073709551616) : IntKind.u64.wrap (a : Int) = a := by
  unfold IntKind.wrap
  simp only [IntKind.bits, IntKind.signed, Bool.false_and, Bool.false_eq_true, if_false]
  omega
theorem ofInt64 (a : Nat) (h : a < 18446744073709551616) : (BitVec.ofInt IntKind.u64.bits (a : Int)).toNat = a := by
  simp only [IntKind.bits]
  rw [BitVec.toNat_ofInt]
  omega
theorem bits_and (a b : Nat) (ha : a < 18446744073709551616) (hb : b < 18446744073709551616) : Go.bits .and .u64 (a : Int) (b : Int) = ((a &&& b : Nat) : Int) := by
  unfold Go.bits
  simp only [BitVec.toNat_and, ofInt64 a ha, ofInt64 b hb]
  exact wu64 _ (Nat.lt_of_le_of_lt Nat.and_le_left ha)
theorem bits_or (a b : Nat) (ha : a < 18446744073709551616) (hb : b < 18446744073709551616) : Go.bits .or .u64 (a : Int) (b : Int) = ((a ||| b : Nat) : Int) := by
  unfold Go.bits
  simp only [BitVec.toNat_or, ofInt64 a ha, ofInt64 b hb]
  exact wu64 _ (Nat.or_lt_two_pow (n := 64) ha hb)
theorem bits_andNot (a b : Nat) (ha : a < 18446744073709551616) (hb : b < 18446744073709551616) : Go.bits .andNot .u64 (a : Int) (b : Int) = ((a &&& (18446744073709551615 - b) : Nat) : Int) := by
  unfold Go.bits
  have e : (~~~ (BitVec.ofInt IntKind.u64.bits (b : Int))).toNat = 18446744073709551615 - b := by
    rw [BitVec.toNat_not, ofInt64 b hb]
    simp only [IntKind.bits]
  simp only [BitVec.toNat_and, e, ofInt64 a ha]
  exact wu64 _ (Nat.lt_of_le_of_lt Nat.and_le_left ha)
theorem bits_mask (a n : Nat) (ha : a < 18446744073709551616) (hn : 2 ^ n - 1 < 18446744073709551616) : Go.bits .and .u64 (a : Int) ((2 ^ n - 1 : Nat) : Int) = ((a % 2 ^ n : Nat) : Int) := by
  rw [bits_and a _ ha hn, Nat.and_two_pow_sub_one_eq_mod]
theorem keepLow (w m a : Nat) (hw : w < 2 ^ a) (hm : m % 2 ^ a = 0) (h64 : m < 2 ^ 64) (hw64 : w < 2 ^ 64) : w &&& (2 ^ 64 - (m + 1)) = w := by
  apply Nat.eq_of_testBit_eq
  intro i
  rw [Nat.testBit_and, Nat.testBit_two_pow_sub_succ h64]
  by_cases hi : i < a
  · have h1 : m.testBit i = false := by
      have h := congrArg (fun x => x.testBit i) hm
      simp only [Nat.testBit_mod_two_pow, Nat.zero_testBit, hi, decide_true, Bool.true_and] at h
      exact h
    by_cases h2 : i < 64
    · simp [h1, h2]
    · have : w.testBit i = false := Nat.testBit_lt_two_pow (Nat.lt_of_lt_of_le hw64 (Nat.pow_le_pow_right (by decide) (by omega)))
      simp [this]
  · have : w.testBit i = false := Nat.testBit_lt_two_pow (Nat.lt_of_lt_of_le hw (Nat.pow_le_pow_right (by decide) (by omega)))
    simp [this]

theorem mask16 : field_mask.f 16 = some 65535 := by decide +kernel
theorem fits0 : field_Fits.f 0 16 = some true := by decide +kernel
theorem fits16 : field_Fits.f 16 16 = some true := by decide +kernel
theorem get_gen (w at_ many : Nat) (hw : w < 18446744073709551616) (hm : field_mask.f (many : Int) = some ((2 ^ many - 1 : Nat) : Int)) (hf : field_Fits.f (at_ : Int) (many : Int) = some true) (h64 : at_ < 64) (hmm : 2 ^ many - 1 < 18446744073709551616) :
    field_Get.f (w : Int) (at_ : Int) (many : Int) = some ((w / 2 ^ at_ % 2 ^ many : Nat) : Int) := by
  unfold field_Get.f
  rw [hf]
  simp only [Option.bind_some, if_true, hm]
  rw [if_pos (by omega)]
  have e : shr .u64 (w : Int) (at_ : Int) = ((w / 2 ^ at_ : Nat) : Int) := by
    unfold shr
    simp only [Int.toNat_natCast, IntKind.bits, Nat.min_eq_left (Nat.le_of_lt h64)]
    norm_cast
  rw [e, bits_mask _ _ (Nat.lt_of_le_of_lt (Nat.div_le_self _ _) hw) hmm]
theorem keepAnd (w M : Nat) (hM : M < 2 ^ 64) (hw : w < 2 ^ 64) (h : w &&& M = 0) : w &&& (2 ^ 64 - (M + 1)) = w := by
  apply Nat.eq_of_testBit_eq
  intro i
  rw [Nat.testBit_and, Nat.testBit_two_pow_sub_succ hM]
  have hi := congrArg (fun x => x.testBit i) h
  simp only [Nat.testBit_and, Nat.zero_testBit] at hi
  by_cases h2 : i < 64
  · cases e1 : w.testBit i <;> cases e2 : M.testBit i <;> simp_all
  · have : w.testBit i = false := Nat.testBit_lt_two_pow (Nat.lt_of_lt_of_le hw (Nat.pow_le_pow_right (by decide) (by omega)))
    simp [this]
/-- Put at 0 and at 16, sixteen bits, where the word's own are naught. -/
theorem put0 (w v : Nat) (hw : w < 2 ^ 64) (hm : w % 65536 = 0) (hv : v < 65536) : field_Put.f (w : Int) 0 16 (v : Int) = some ((w + v : Nat) : Int) := by
  have sh : ∀ x : Nat, x < 18446744073709551616 → shl .u64 (x : Int) 0 = (x : Int) := fun x hx => by
    unfold shl
    have e : ((x : Int) * 2 ^ (min (0 : Int).toNat IntKind.u64.bits)) = (x : Int) := by
      have : min (0 : Int).toNat IntKind.u64.bits = 0 := by decide
      rw [this]
      simp
    rw [e]
    exact wu64 x hx
  unfold field_Put.f
  rw [fits0]
  simp only [Option.bind_some, if_true, mask16]
  have s1 := sh 65535 (by omega)
  have s2 := sh v (by omega)
  rw [show (65535 : Int) = ((65535 : Nat) : Int) from rfl, s1, s2, if_pos (by omega)]
  have h0 : w &&& 65535 = 0 := by
    have := Nat.and_two_pow_sub_one_eq_mod w 16
    rw [show 2 ^ 16 - 1 = 65535 from rfl, show 2 ^ 16 = 65536 from rfl] at this
    rw [this, hm]
  rw [bits_andNot w 65535 hw (by omega), show 18446744073709551615 - 65535 = 2 ^ 64 - (65535 + 1) from rfl, keepAnd w 65535 (by omega) hw h0, bits_and v 65535 (by omega) (by omega)]
  have hvm : v &&& 65535 = v := by
    have := Nat.and_two_pow_sub_one_eq_mod v 16
    rw [show 2 ^ 16 - 1 = 65535 from rfl, show 2 ^ 16 = 65536 from rfl] at this
    rw [this, Nat.mod_eq_of_lt hv]
  rw [hvm, bits_or w v hw (by omega)]
  have ho : w ||| v = w + v := by
    have := Nat.two_pow_add_eq_or_of_lt (i := 16) hv (w / 65536)
    rw [show 2 ^ 16 * (w / 65536) = w by omega] at this
    exact this.symm
  rw [ho]
theorem put16 (hi t v : Nat) (hh : hi < 65536) (ht : t < 65536) (hv : v < 65536) : field_Put.f ((281474976710656 * hi + t : Nat) : Int) 16 16 (v : Int) = some ((281474976710656 * hi + 65536 * v + t : Nat) : Int) := by
  have sh : ∀ x : Nat, x < 65536 → shl .u64 (x : Int) 16 = ((65536 * x : Nat) : Int) := fun x hx => by
    unfold shl
    have e : ((x : Int) * 2 ^ (min (16 : Int).toNat IntKind.u64.bits)) = ((65536 * x : Nat) : Int) := by
      have : min (16 : Int).toNat IntKind.u64.bits = 16 := by decide
      rw [this, show (2 : Int) ^ 16 = 65536 from rfl]
      omega
    rw [e]
    exact wu64 _ (by omega)
  obtain ⟨w, hw⟩ : ∃ w, 281474976710656 * hi + t = w := ⟨_, rfl⟩
  have hw64 : w < 18446744073709551616 := by omega
  unfold field_Put.f
  rw [fits16]
  simp only [Option.bind_some, if_true, mask16]
  have s1 := sh 65535 (by omega)
  have s2 := sh v hv
  rw [hw, show (65535 : Int) = ((65535 : Nat) : Int) from rfl, s1, s2, if_pos (by omega)]
  have h0 : w &&& (65536 * 65535) = 0 := by
    have h1 := Nat.and_div_two_pow (a := w) (b := 65536 * 65535) (n := 16)
    have h2 := Nat.and_mod_two_pow (a := w) (b := 65536 * 65535) (n := 16)
    have h3 : w / 2 ^ 16 &&& (65536 * 65535) / 2 ^ 16 = 0 := by
      rw [show (65536 * 65535) / 2 ^ 16 = 2 ^ 16 - 1 from rfl, Nat.and_two_pow_sub_one_eq_mod]
      omega
    have h4 : w % 2 ^ 16 &&& (65536 * 65535) % 2 ^ 16 = 0 := by
      rw [show (65536 * 65535) % 2 ^ 16 = 0 from rfl, Nat.and_zero]
    rw [h3] at h1
    rw [h4] at h2
    omega
  rw [bits_andNot w (65536 * 65535) hw64 (by omega), show 18446744073709551615 - 65536 * 65535 = 2 ^ 64 - (65536 * 65535 + 1) from rfl, keepAnd w (65536 * 65535) (by omega) hw64 h0, bits_and (65536 * v) (65536 * 65535) (by omega) (by omega)]
  have hvm : (65536 * v) &&& (65536 * 65535) = 65536 * v := by
    rw [Nat.mul_comm, Nat.mul_comm 65536 65535, ← show v <<< 16 = v * 65536 from Nat.shiftLeft_eq v 16, ← show 65535 <<< 16 = 65535 * 65536 from Nat.shiftLeft_eq 65535 16, ← Nat.shiftLeft_and_distrib, show (65535 : Nat) = 2 ^ 16 - 1 from rfl, Nat.and_two_pow_sub_one_eq_mod, Nat.mod_eq_of_lt hv]
  rw [hvm, bits_or w (65536 * v) hw64 (by omega)]
  have ho : w ||| (65536 * v) = 281474976710656 * hi + 65536 * v + t := by
    have a1 := Nat.two_pow_add_eq_or_of_lt (i := 48) (show t < 2 ^ 48 by omega) hi
    have a2 := Nat.two_pow_add_eq_or_of_lt (i := 16) (show t < 2 ^ 16 by omega) v
    have a3 := Nat.two_pow_add_eq_or_of_lt (i := 48) (show 2 ^ 16 * v + t < 2 ^ 48 by omega) hi
    rw [← hw, show 281474976710656 * hi + t = 2 ^ 48 * hi + t by omega, a1, Nat.or_assoc, Nat.or_comm t, show 65536 * v = 2 ^ 16 * v from rfl, ← a2, ← a3]
    omega
  rw [ho]
/-- A header that can be. -/
def rightH (a b c : Int) : Bool := decide (1 ≤ a ∧ a ≤ 65535 ∧ 0 ≤ b ∧ b ≤ 4096 ∧ 1 ≤ c)
theorem right_eq (a b c : Int) (hc : 0 ≤ c) : oid_Right.f a b c = some (rightH a b c) := by
  unfold oid_Right.f rightH
  by_cases h1 : a ≥ 1
  · rw [if_pos h1]
    by_cases h2 : a ≤ 65535
    · rw [if_pos h2]
      by_cases h3 : b ≥ 0
      · rw [if_pos h3]
        by_cases h4 : b ≤ 4096
        · rw [if_pos h4]
          congr 1
          by_cases h5 : c = 0
          · subst h5; simp
          · have : (c != 0) = true := by simp [h5]
            rw [this, decide_eq_true (by omega)]
        · rw [if_neg h4, decide_eq_false (by omega)]
      · rw [if_neg h3, decide_eq_false (by omega)]
    · rw [if_neg h2, decide_eq_false (by omega)]
  · rw [if_neg h1, decide_eq_false (by omega)]
theorem refRight_eq (a b c : Int) : lockfastref08_Right.f a b c = some (rightH a b c) := by
  unfold lockfastref08_Right.f rightH
  by_cases h1 : a > 0
  · rw [if_pos h1]
    by_cases h2 : a < 65536
    · rw [if_pos h2]
      by_cases h3 : b ≥ 0
      · rw [if_pos h3]
        by_cases h4 : b ≤ 4096
        · rw [if_pos h4]
          congr 1
          by_cases h5 : c > 0
          · rw [decide_eq_true h5, decide_eq_true (by omega)]
          · rw [decide_eq_false h5, decide_eq_false (by omega)]
        · rw [if_neg h4, decide_eq_false (by omega)]
      · rw [if_neg h3, decide_eq_false (by omega)]
    · rw [if_neg h2, decide_eq_false (by omega)]
  · rw [if_neg h1, decide_eq_false (by omega)]
/-- A header's first word. -/
def firstN (a b : Nat) : Nat := 281474976710656 * 64087 + 65536 * b + a
theorem first_eq (a b : Nat) (c : Int) (ha : a < 65536) (hb : b < 65536) : oid_first.f (a : Int) (b : Int) c = some (firstN a b : Int) := by
  unfold oid_first.f
  rw [wu64 a (by omega), wu64 b (by omega)]
  have h1 := put0 18038886832455811072 a (by omega) (by omega) ha
  rw [show ((18038886832455811072 : Nat) : Int) = 18038886832455811072 from rfl] at h1
  rw [h1]
  have h2 := put16 64087 a b (by omega) ha hb
  rw [show 281474976710656 * 64087 + a = 18038886832455811072 + a by omega] at h2
  simp only [Option.bind_some]
  rw [h2]
  rfl
def encR (a b c : Int) : List Int × Int := if rightH a b c = true then ([(firstN a.toNat b.toNat : Int), c], 0) else ([], 1)
theorem encode_eq (a b c : Int) (hc : 0 ≤ c) : oid_Encode.f a b c = some (encR a b c) := by
  unfold oid_Encode.f encR
  rw [right_eq a b c hc]
  simp only [Option.bind_some]
  by_cases h : rightH a b c = true
  · rw [if_pos h, if_pos h]
    have hr := of_decide_eq_true h
    obtain ⟨x, rfl⟩ : ∃ n : Nat, a = (n : Int) := ⟨a.toNat, by omega⟩
    obtain ⟨y, rfl⟩ : ∃ n : Nat, b = (n : Int) := ⟨b.toNat, by omega⟩
    rw [first_eq x y c (by omega) (by omega)]
    rfl
  · rw [if_neg h, if_neg h]
theorem refEncode_eq (a b c : Int) : lockfastref08_Encode.f a b c = some (encR a b c) := by
  unfold lockfastref08_Encode.f encR
  rw [refRight_eq a b c]
  simp only [Option.bind_some]
  by_cases h : rightH a b c = true
  · rw [if_pos h, if_pos h]
    have hr := of_decide_eq_true h
    obtain ⟨x, rfl⟩ : ∃ n : Nat, a = (n : Int) := ⟨a.toNat, by omega⟩
    obtain ⟨y, rfl⟩ : ∃ n : Nat, b = (n : Int) := ⟨b.toNat, by omega⟩
    rw [wu64 x (by omega), wu64 y (by omega), show (65536 * (y : Int)) = ((65536 * y : Nat) : Int) by omega, wu64 _ (by omega), show (18038886832455811072 : Int) + ((65536 * y : Nat) : Int) = ((18038886832455811072 + 65536 * y : Nat) : Int) by omega, wu64 _ (by omega), show ((18038886832455811072 + 65536 * y : Nat) : Int) + (x : Int) = ((18038886832455811072 + 65536 * y + x : Nat) : Int) by omega, wu64 _ (by omega)]
    rfl
  · rw [if_neg h, if_neg h]
end Go.Proofs.YtlbgepadkaehiaaDoor.Pure
