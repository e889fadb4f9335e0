-- Written by lfprint.py of this session's own, by way of the kit's print.py; with hand-made contracts.
import Derived.Lib.ItoaNum
import Derived.Lib.Hide
import Derived.Outline
import Derived.Lib.Strings
import Derived.Test.YtlbgepadkaehiaaDoorQx0
import Derived.Test.YtlbgepadkaehiaaDoorQx6
namespace Go.Proofs.YtlbgepadkaehiaaDoor.Q
open Go.RowKit Go.Proofs.YtlbgepadkaehiaaDoorW.PrintWords Go.Proofs.YtlbgepadkaehiaaDoorW.PrintLast Go.Proofs.YtlbgepadkaehiaaDoorW.PrintMore
attribute [local go_sem] max2_int min2_int max_two min_two max_three min_three max_four min_four   -- for this text's walks alone
set_option linter.unusedVariables false
set_option linter.unusedSimpArgs false

/-! ### lockfastref08_digits: function 26 -/
def lockfastref08_digits.f (a0 : Int) : Option ByteArray := if 0 ≤ a0 ∧ a0 ≤ 18446744073709551615 then some (digB a0.toNat) else none
set_option maxRecDepth 100000 in
set_option maxHeartbeats 2000000 in
theorem lockfastref08_digits.calls (a0 : Int) (r : ByteArray) (w : World) (h : lockfastref08_digits.f a0 = some r) :
    Calls Tryd.prog 26 #[.int .u64 a0] w fun e w' => e = .returned (.string r) ∧ Drawn0 w w' := by
  unfold lockfastref08_digits.f at h
  split at h
  case isFalse => cases h
  case isTrue hr =>
  cases h
  obtain ⟨n, rfl⟩ : ∃ n : Nat, a0 = (n : Int) := ⟨a0.toNat, by omega⟩
  rw [Int.toNat_natCast]
  have hn : n ≤ 18446744073709551615 := by omega
  have hnl := decDigits_len 19 n (by omega)
  have HN := Lib.hid hn
  have HL := Lib.hid hnl
  clear hr hn hnl
  go_enter Tryd.func26, Tryd.ntmps26
  go_wp2
  go_loop [0, 3] (fun vn vs => ∃ (m : Nat) (l : List UInt8), vn = .int .u64 (m : Int) ∧ vs = .string ⟨l.toArray⟩ ∧ Hid (m ≤ 18446744073709551615 ∧ Lib.decDigits m ++ l = Lib.decDigits n)) (fun vn _ => (intOf vn).toNat)
  case atStart => exact ⟨n, [], rfl, rfl, HN.out, by simp⟩
  case round =>
    obtain ⟨m, l, rfl, rfl, HM⟩ := hrel
    have hl : l.length ≤ 20 := by
      have h1 := congrArg List.length HM.out.2
      have h2 := HL.out
      rw [List.length_append] at h1
      omega
    by_cases hlt : 9 < m
    · have hz : (9 : Int) < (m : Int) := by omega
      have he : Utf8.encode (48 + (m : Int) % 10) = ⟨#[dch (m % 10)]⟩ := by
        have := enc_digit (m % 10) (by omega)
        rwa [show ((m % 10 : Nat) : Int) = (m : Int) % 10 by omega] at this
      have hw : IntKind.u64.wrap ((m : Int) / 10) = ((m / 10 : Nat) : Int) := by
        rw [IntKind.wrap_u64]; have := HM.out.1; omega
      have hz1 : (⟨#[dch (m % 10)]⟩ : ByteArray).size = 1 := rfl
      have hno : ¬ 9223372036854775807 < 1 + l.length := by omega
      go_wp2
      refine ⟨⟨m / 10, dch (m % 10) :: l, rfl, ?_, ?_⟩, ?_⟩
      · exact congrArg Value.string (ba_app [dch (m % 10)] l)
      · show _ ∧ _
        refine ⟨by have := HM.out.1; omega, ?_⟩
        rw [← HM.out.2, decDigits_big m hlt, List.append_assoc]; rfl
      · simp [intOf]; omega
    · have hz : ¬ (9 : Int) < (m : Int) := by omega
      have he : Utf8.encode (48 + (m : Int)) = ⟨#[dch m]⟩ := enc_digit m (by omega)
      have hz1 : (⟨#[dch m]⟩ : ByteArray).size = 1 := rfl
      have hno : ¬ 9223372036854775807 < 1 + l.length := by omega
      go_wp2
      go_ret
      refine ⟨congrArg Ending.returned (congrArg Value.string ?_), Drawn0.refl _⟩
      refine (ba_app [dch m] l).trans ?_
      unfold digB
      rw [← HM.out.2, decDigits_small m (by omega)]

end Go.Proofs.YtlbgepadkaehiaaDoor.Q
