-- Written by lfprint.py of this session's own, by way of the kit's print.py; with hand-made contracts.
import Derived.Test.YtflbmccjfnkflaaDoorQx0
import Derived.Test.YtflbmccjfnkflaaDoorQx5
namespace Go.Proofs.YtflbmccjfnkflaaDoor.Q
open Go.RowKit Go.Proofs.YtflbmccjfnkflaaDoorW.PrintWords Go.Proofs.YtflbmccjfnkflaaDoorW.PrintLast Go.Proofs.YtflbmccjfnkflaaDoorW.PrintMore
attribute [local go_sem] max2_int min2_int max_two min_two max_three min_three max_four min_four   -- for this text's walks alone
set_option linter.unusedVariables false
set_option linter.unusedSimpArgs false

/-! ### class_Block: function 94 -/
def blockW (c : Int) : Int := if c = 0 then 4 else if c = 1 then 8 else if c = 2 then 16 else 0
def class_Block.f (a0 : Int) : Option Int := some (blockW a0)
set_option maxHeartbeats 1000000 in
theorem class_Block.calls (a0 : Int) (r : Int) (w : World) (h : class_Block.f a0 = some r) :
    CallsG 94 #[.int .i64 a0] w fun e w' => e = .returned (.int .i64 r) ∧ Drawn0 w w' := by
  rintro ⟨g0, g1, g2⟩
  cases h
  by_cases h1 : a0 < 0
  · have e : blockW a0 = 0 := by unfold blockW; rw [if_neg (by omega), if_neg (by omega), if_neg (by omega)]
    rw [e]; clear e g0 g1 g2
    go_enter Tryd.func94, Tryd.ntmps94
    go_wp2
    go_ret
    exact ⟨rfl, Drawn0.refl _⟩
  · by_cases h2 : 3 ≤ a0
    · have e : blockW a0 = 0 := by unfold blockW; rw [if_neg (by omega), if_neg (by omega), if_neg (by omega)]
      rw [e]; clear e g0 g1 g2
      go_enter Tryd.func94, Tryd.ntmps94
      go_wp2
      go_ret
      exact ⟨rfl, Drawn0.refl _⟩
    · rcases (show a0 = 0 ∨ a0 = 1 ∨ a0 = 2 by omega) with rfl | rfl | rfl
      all_goals
        clear h1 h2
        go_enter Tryd.func94, Tryd.ntmps94
        go_wp2
        go_ret
        exact ⟨rfl, Drawn0.refl _⟩

end Go.Proofs.YtflbmccjfnkflaaDoor.Q
