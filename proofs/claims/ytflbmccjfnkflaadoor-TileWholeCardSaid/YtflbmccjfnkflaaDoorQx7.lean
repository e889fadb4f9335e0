-- Written by lfprint.py of this session's own, by way of the kit's print.py; with hand-made contracts.
import Derived.Test.YtflbmccjfnkflaaDoorQx0
import Derived.Test.YtflbmccjfnkflaaDoorQx5
import Derived.Test.YtflbmccjfnkflaaDoorQx6
namespace Go.Proofs.YtflbmccjfnkflaaDoor.Q
open Go.RowKit Go.Proofs.YtflbmccjfnkflaaDoorW.PrintWords Go.Proofs.YtflbmccjfnkflaaDoorW.PrintLast Go.Proofs.YtflbmccjfnkflaaDoorW.PrintMore
attribute [local go_sem] max2_int min2_int max_two min_two max_three min_three max_four min_four   -- for this text's walks alone
set_option linter.unusedVariables false
set_option linter.unusedSimpArgs false

/-! ### class_Many: function 93 -/
def manyW (c : Int) : Int := if c = 0 then 8 else if c = 1 then 4 else if c = 2 then 2 else 0
def class_Many.f (a0 : Int) : Option Int := some (manyW a0)
set_option maxHeartbeats 1000000 in
theorem class_Many.calls (a0 : Int) (r : Int) (w : World) (h : class_Many.f a0 = some r) :
    CallsG 93 #[.int .i64 a0] w fun e w' => e = .returned (.int .i64 r) ∧ Drawn0 w w' := by
  intro HG0_
  have HG := Aside0.mk HG0_
  clear HG0_
  cases h
  by_cases h0 : a0 = 0 ∨ a0 = 1 ∨ a0 = 2
  · rcases h0 with rfl | rfl | rfl
    · go_enter Tryd.func93, Tryd.ntmps93
      go_wp2_with (go_at_call 94; (with_reducible refine (class_Block.calls 0 4 _ rfl).mono ?_); rintro e w' ⟨rfl, ⟨nd, rfl⟩⟩)
      go_ret
      exact ⟨rfl, ⟨nd, rfl⟩⟩
    · go_enter Tryd.func93, Tryd.ntmps93
      go_wp2_with (go_at_call 94; (with_reducible refine (class_Block.calls 1 8 _ rfl).mono ?_); rintro e w' ⟨rfl, ⟨nd, rfl⟩⟩)
      go_ret
      exact ⟨rfl, ⟨nd, rfl⟩⟩
    · go_enter Tryd.func93, Tryd.ntmps93
      go_wp2_with (go_at_call 94; (with_reducible refine (class_Block.calls 2 16 _ rfl).mono ?_); rintro e w' ⟨rfl, ⟨nd, rfl⟩⟩)
      go_ret
      exact ⟨rfl, ⟨nd, rfl⟩⟩
  · have e1 : blockW a0 = 0 := by unfold blockW; rw [if_neg (by omega), if_neg (by omega), if_neg (by omega)]
    have e2 : manyW a0 = 0 := by unfold manyW; rw [if_neg (by omega), if_neg (by omega), if_neg (by omega)]
    rw [e2]
    clear e2 h0
    have hb := fun W => class_Block.calls a0 0 W (by show some (blockW a0) = some 0; rw [e1])
    have HBL := Aside0.mk hb
    clear e1 hb
    go_enter Tryd.func93, Tryd.ntmps93
    go_wp2_with (go_at_call 94; (with_reducible refine (HBL.out _).mono ?_); rintro e w' ⟨rfl, ⟨nd, rfl⟩⟩)
    go_ret
    exact ⟨rfl, ⟨nd, rfl⟩⟩

end Go.Proofs.YtflbmccjfnkflaaDoor.Q
