-- Written by lfprint.py of this session's own, by way of the kit's print.py; with hand-made contracts.
import Derived.Lib.ItoaNum
import Derived.Test.YtlbgepadkaehiaaDoorQx0
namespace Go.Proofs.YtlbgepadkaehiaaDoor.Q
open Go.RowKit Go.Proofs.YtlbgepadkaehiaaDoorW.PrintWords Go.Proofs.YtlbgepadkaehiaaDoorW.PrintLast Go.Proofs.YtlbgepadkaehiaaDoorW.PrintMore
attribute [local go_sem] max2_int min2_int max_two min_two max_three min_three max_four min_four   -- for this text's walks alone
set_option linter.unusedVariables false
set_option linter.unusedSimpArgs false

/-- A digit's byte. -/
def dch (d : Nat) : UInt8 := UInt8.ofNat (48 + d)
/-- The decimal digits of a number, as a string. -/
def digB (u : Nat) : ByteArray := ⟨(Lib.decDigits u).toArray⟩
theorem ba_app (a b : List UInt8) : (⟨a.toArray⟩ : ByteArray) ++ (⟨b.toArray⟩ : ByteArray) = ⟨(a ++ b).toArray⟩ := by
  apply ByteArray.ext
  simp
theorem enc_digit : ∀ d : Nat, d < 10 → Utf8.encode (48 + (d : Int)) = ⟨#[dch d]⟩ := by decide +kernel
theorem decDigits_big (m : Nat) (h : 9 < m) : Lib.decDigits m = Lib.decDigits (m / 10) ++ [dch (m % 10)] := by rw [Lib.decDigits, dif_neg (by omega)]; rfl
theorem decDigits_small (m : Nat) (h : m < 10) : Lib.decDigits m = [dch m] := by rw [Lib.decDigits, dif_pos h]; rfl
theorem decDigits_len : ∀ c m : Nat, m < 10 ^ (c + 1) → (Lib.decDigits m).length ≤ c + 1 := by
  intro c
  induction c with
  | zero => intro m h; rw [decDigits_small m (by simpa using h)]; simp
  | succ c ih =>
    intro m h
    by_cases h9 : 9 < m
    · rw [decDigits_big m h9, List.length_append]
      have : m / 10 < 10 ^ (c + 1) := by rw [Nat.div_lt_iff_lt_mul (by decide)]; rw [Nat.pow_succ] at h; exact h
      have := ih (m / 10) this
      simp; omega
    · rw [decDigits_small m (by omega)]; simp
theorem digB_one (m : Nat) (h : m < 10) : digB m = ⟨#[dch m]⟩ := by unfold digB; rw [decDigits_small m h]

end Go.Proofs.YtlbgepadkaehiaaDoor.Q
