-- Written by lfprint.py of this session's own, by way of the kit's print.py; with hand-made contracts.
import Derived.Lib.AppendIntMem
import Derived.Test.YtlbgepadkaehiaaDoorQx0
import Derived.Test.YtlbgepadkaehiaaDoorQx4
import Derived.Test.YtlbgepadkaehiaaDoorQx5
import Derived.Test.YtlbgepadkaehiaaDoorQx6
namespace Go.Proofs.YtlbgepadkaehiaaDoor.Q
open Go.RowKit Go.Proofs.YtlbgepadkaehiaaDoorW.PrintWords Go.Proofs.YtlbgepadkaehiaaDoorW.PrintLast Go.Proofs.YtlbgepadkaehiaaDoorW.PrintMore
attribute [local go_sem] max2_int min2_int max_two min_two max_three min_three max_four min_four   -- for this text's walks alone
set_option linter.unusedVariables false
set_option linter.unusedSimpArgs false

/-! ### strconv_Itoa_21: function 21 -/
def strconv_Itoa_21.f (a0 : Int) : Option ByteArray := if 0 ≤ a0 ∧ a0 ≤ 9223372036854775807 then some (digB a0.toNat) else none
theorem strconv_Itoa_21.calls (a0 : Int) (r : ByteArray) (w : World) (h : strconv_Itoa_21.f a0 = some r) :
    CallsG 21 #[.int .i64 a0] w fun e w' => e = .returned (.string r) ∧ Below w.heap.size w w' := by
  intro hG
  unfold strconv_Itoa_21.f at h
  split at h
  case isFalse => cases h
  case isTrue hr =>
  cases h
  refine (Any.strconv_Itoa sc171 a0 (by omega) (by omega) w hG.1).mono ?_
  rintro e w' ⟨rfl, k, os, rfl⟩
  refine ⟨?_, Lib.below_grow _ w (Nat.le_refl _) k os⟩
  unfold digB Lib.itoa
  rw [if_neg (by omega)]

end Go.Proofs.YtlbgepadkaehiaaDoor.Q
