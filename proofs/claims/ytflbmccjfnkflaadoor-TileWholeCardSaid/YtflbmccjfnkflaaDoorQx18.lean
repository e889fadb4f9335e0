-- Written by lfprint.py of this session's own, by way of the kit's print.py; with hand-made contracts.
import Derived.Outline
import Derived.Test.YtflbmccjfnkflaaDoorQx0
import Derived.Test.YtflbmccjfnkflaaDoorQx16
import Derived.Test.YtflbmccjfnkflaaDoorQx17
namespace Go.Proofs.YtflbmccjfnkflaaDoor.Q
open Go.RowKit Go.Proofs.YtflbmccjfnkflaaDoorW.PrintWords Go.Proofs.YtflbmccjfnkflaaDoorW.PrintLast Go.Proofs.YtflbmccjfnkflaaDoorW.PrintMore
attribute [local go_sem] max2_int min2_int max_two min_two max_three min_three max_four min_four   -- for this text's walks alone
set_option linter.unusedVariables false
set_option linter.unusedSimpArgs false

/-! ### lockfastref10_Right: function 90 -/
attribute [local go_sem high] eqChunk
def refRight (k c l m b : Int) : Bool :=
  if k = 0 ∨ k = 3 then decide (c = 0 ∧ l = 0 ∧ m = 0 ∧ b = 0)
  else if k = 1 then decide (l = 0 ∧ m = 0 ∧ ((c = 0 ∧ b < 256) ∨ (c = 1 ∧ b < 16) ∨ (c = 2 ∧ b < 4)))
  else if k = 2 then decide (c = 0 ∧ l = 0 ∧ b = 0 ∧ 1 ≤ m ∧ m ≤ 8191)
  else if k = 4 then decide (c = 0 ∧ b = 0 ∧ 0 ≤ l ∧ l ≤ 63 ∧ 0 ≤ m ∧ m ≤ 7)
  else false
def lockfastref10_Right.f (a0_0 a0_1 a0_2 a0_3 a0_4 : Int) : Option Bool := some (refRight a0_0 a0_1 a0_2 a0_3 a0_4)
theorem refMany0 : lockfastref09_Many.f 20 0 = some 8 := by decide +kernel
theorem refPower0 : lockfastref10_power.f 20 8 = some 256 := by decide +kernel
theorem refMany1 : lockfastref09_Many.f 20 1 = some 4 := by decide +kernel
theorem refPower1 : lockfastref10_power.f 20 4 = some 16 := by decide +kernel
theorem refMany2 : lockfastref09_Many.f 20 2 = some 2 := by decide +kernel
theorem refPower2 : lockfastref10_power.f 20 2 = some 4 := by decide +kernel
set_option maxHeartbeats 4000000 in
set_option maxRecDepth 100000 in
theorem refRight_run0 (b : Int) (w : World) :
    Calls Tryd.prog 90 #[.agg #[.int .i64 1, .int .i64 0, .int .i64 0, .int .i64 0, .int .u64 b]] w fun e w' => e = .returned (.bool (decide (b < 256))) ∧ Below w.heap.size w w' := by
  have hu := Tryd.underlying29
  go_enter Tryd.func90, Tryd.ntmps90
  go_wp2
  go_quiet (first | (go_at_call 26; (with_reducible refine (lockfastref09_Many.calls 20 0 8 _ refMany0).mono ?_); rintro e w' ⟨rfl, ⟨nd, rfl⟩⟩; (try first | exact ⟨rfl, _, World.drewN_drewN _ _ _⟩ | exact ⟨rfl, _, Eq.trans (World.drewN_drewN _ _ _) (congrArg (World.drewN _) (Nat.add_assoc _ _ _))⟩ | exact ⟨rfl, _, rfl⟩)) | (go_at_call 101; (with_reducible refine (lockfastref10_power.calls 20 8 256 _ refPower0).mono ?_); rintro e w' ⟨rfl, ⟨nd, rfl⟩⟩; (try first | exact ⟨rfl, _, World.drewN_drewN _ _ _⟩ | exact ⟨rfl, _, Eq.trans (World.drewN_drewN _ _ _) (congrArg (World.drewN _) (Nat.add_assoc _ _ _))⟩ | exact ⟨rfl, _, rfl⟩)))
  try go_wp2
  go_ret
  exact ⟨rfl, by repeat (first | exact Below.refl _ _ | apply below_alloc | apply pw_below_drewN | apply below_drew1)⟩
set_option maxHeartbeats 4000000 in
set_option maxRecDepth 100000 in
theorem refRight_run1 (b : Int) (w : World) :
    Calls Tryd.prog 90 #[.agg #[.int .i64 1, .int .i64 1, .int .i64 0, .int .i64 0, .int .u64 b]] w fun e w' => e = .returned (.bool (decide (b < 16))) ∧ Below w.heap.size w w' := by
  have hu := Tryd.underlying29
  go_enter Tryd.func90, Tryd.ntmps90
  go_wp2
  go_quiet (first | (go_at_call 26; (with_reducible refine (lockfastref09_Many.calls 20 1 4 _ refMany1).mono ?_); rintro e w' ⟨rfl, ⟨nd, rfl⟩⟩; (try first | exact ⟨rfl, _, World.drewN_drewN _ _ _⟩ | exact ⟨rfl, _, Eq.trans (World.drewN_drewN _ _ _) (congrArg (World.drewN _) (Nat.add_assoc _ _ _))⟩ | exact ⟨rfl, _, rfl⟩)) | (go_at_call 101; (with_reducible refine (lockfastref10_power.calls 20 4 16 _ refPower1).mono ?_); rintro e w' ⟨rfl, ⟨nd, rfl⟩⟩; (try first | exact ⟨rfl, _, World.drewN_drewN _ _ _⟩ | exact ⟨rfl, _, Eq.trans (World.drewN_drewN _ _ _) (congrArg (World.drewN _) (Nat.add_assoc _ _ _))⟩ | exact ⟨rfl, _, rfl⟩)))
  try go_wp2
  go_ret
  exact ⟨rfl, by repeat (first | exact Below.refl _ _ | apply below_alloc | apply pw_below_drewN | apply below_drew1)⟩
set_option maxHeartbeats 4000000 in
set_option maxRecDepth 100000 in
theorem refRight_run2 (b : Int) (w : World) :
    Calls Tryd.prog 90 #[.agg #[.int .i64 1, .int .i64 2, .int .i64 0, .int .i64 0, .int .u64 b]] w fun e w' => e = .returned (.bool (decide (b < 4))) ∧ Below w.heap.size w w' := by
  have hu := Tryd.underlying29
  go_enter Tryd.func90, Tryd.ntmps90
  go_wp2
  go_quiet (first | (go_at_call 26; (with_reducible refine (lockfastref09_Many.calls 20 2 2 _ refMany2).mono ?_); rintro e w' ⟨rfl, ⟨nd, rfl⟩⟩; (try first | exact ⟨rfl, _, World.drewN_drewN _ _ _⟩ | exact ⟨rfl, _, Eq.trans (World.drewN_drewN _ _ _) (congrArg (World.drewN _) (Nat.add_assoc _ _ _))⟩ | exact ⟨rfl, _, rfl⟩)) | (go_at_call 101; (with_reducible refine (lockfastref10_power.calls 20 2 4 _ refPower2).mono ?_); rintro e w' ⟨rfl, ⟨nd, rfl⟩⟩; (try first | exact ⟨rfl, _, World.drewN_drewN _ _ _⟩ | exact ⟨rfl, _, Eq.trans (World.drewN_drewN _ _ _) (congrArg (World.drewN _) (Nat.add_assoc _ _ _))⟩ | exact ⟨rfl, _, rfl⟩)))
  try go_wp2
  go_ret
  exact ⟨rfl, by repeat (first | exact Below.refl _ _ | apply below_alloc | apply pw_below_drewN | apply below_drew1)⟩
set_option maxHeartbeats 4000000 in
set_option maxRecDepth 100000 in
theorem refRight_runLow (c b : Int) (w : World) (h : c < 0) :
    Calls Tryd.prog 90 #[.agg #[.int .i64 1, .int .i64 c, .int .i64 0, .int .i64 0, .int .u64 b]] w fun e w' => e = .returned (.bool false) ∧ Below w.heap.size w w' := by
  have h1 : decide (0 ≤ c) = false := by simpa using h
  clear h
  have hu := Tryd.underlying29
  go_enter Tryd.func90, Tryd.ntmps90
  go_wp2
  repeat (go_quiet (fail); try go_wp2)
  go_ret
  exact ⟨rfl, by repeat (first | exact Below.refl _ _ | apply below_alloc | apply pw_below_drewN | apply below_drew1)⟩
set_option maxHeartbeats 4000000 in
set_option maxRecDepth 100000 in
theorem refRight_runHigh (c b : Int) (w : World) (h : 3 ≤ c) :
    Calls Tryd.prog 90 #[.agg #[.int .i64 1, .int .i64 c, .int .i64 0, .int .i64 0, .int .u64 b]] w fun e w' => e = .returned (.bool false) ∧ Below w.heap.size w w' := by
  have h1 : decide (0 ≤ c) = true := by simp; omega
  have h2 : decide (c ≤ 2) = false := by simp; omega
  clear h
  have hu := Tryd.underlying29
  go_enter Tryd.func90, Tryd.ntmps90
  go_wp2
  repeat (go_quiet (fail); try go_wp2)
  go_ret
  exact ⟨rfl, by repeat (first | exact Below.refl _ _ | apply below_alloc | apply pw_below_drewN | apply below_drew1)⟩
set_option maxHeartbeats 4000000 in
set_option maxRecDepth 100000 in
theorem refRight_runNot (c l m b : Int) (w : World) (h : ((l == 0) && (m == 0)) = false) :
    Calls Tryd.prog 90 #[.agg #[.int .i64 1, .int .i64 c, .int .i64 l, .int .i64 m, .int .u64 b]] w fun e w' => e = .returned (.bool false) ∧ Below w.heap.size w w' := by
  have h1 : (l == 0 && m == 0) = false := h
  clear h
  have hu := Tryd.underlying29
  go_enter Tryd.func90, Tryd.ntmps90
  go_wp2
  repeat (go_quiet (fail); try go_wp2)
  go_ret
  exact ⟨rfl, by repeat (first | exact Below.refl _ _ | apply below_alloc | apply pw_below_drewN | apply below_drew1)⟩
set_option maxHeartbeats 4000000 in
set_option maxRecDepth 100000 in
theorem refRight_k0 (c l m b : Int) (w : World)  :
    Calls Tryd.prog 90 #[.agg #[.int .i64 0, .int .i64 c, .int .i64 l, .int .i64 m, .int .u64 b]] w fun e w' => e = .returned (.bool (c == 0 && (l == 0 && (m == 0 && b == 0)))) ∧ Below w.heap.size w w' := by
  have hu := Tryd.underlying29
  go_enter Tryd.func90, Tryd.ntmps90
  go_wp2
  repeat (go_quiet (fail); try go_wp2)
  go_ret
  exact ⟨rfl, by repeat (first | exact Below.refl _ _ | apply below_alloc | apply pw_below_drewN | apply below_drew1)⟩
set_option maxHeartbeats 4000000 in
set_option maxRecDepth 100000 in
theorem refRight_k3 (c l m b : Int) (w : World)  :
    Calls Tryd.prog 90 #[.agg #[.int .i64 3, .int .i64 c, .int .i64 l, .int .i64 m, .int .u64 b]] w fun e w' => e = .returned (.bool (c == 0 && (l == 0 && (m == 0 && b == 0)))) ∧ Below w.heap.size w w' := by
  have hu := Tryd.underlying29
  go_enter Tryd.func90, Tryd.ntmps90
  go_wp2
  repeat (go_quiet (fail); try go_wp2)
  go_ret
  exact ⟨rfl, by repeat (first | exact Below.refl _ _ | apply below_alloc | apply pw_below_drewN | apply below_drew1)⟩
set_option maxHeartbeats 4000000 in
set_option maxRecDepth 100000 in
theorem refRight_other (k c l m b : Int) (w : World) (h0 : (k == 0) = false) (h3 : (k == 3) = false) (h1 : (k == 1) = false) (h2 : (k == 2) = false) (h4 : (k == 4) = false) :
    Calls Tryd.prog 90 #[.agg #[.int .i64 k, .int .i64 c, .int .i64 l, .int .i64 m, .int .u64 b]] w fun e w' => e = .returned (.bool false) ∧ Below w.heap.size w w' := by
  have hu := Tryd.underlying29
  go_enter Tryd.func90, Tryd.ntmps90
  go_wp2
  repeat (go_quiet (fail); try go_wp2)
  go_ret
  exact ⟨rfl, by repeat (first | exact Below.refl _ _ | apply below_alloc | apply pw_below_drewN | apply below_drew1)⟩
set_option maxHeartbeats 4000000 in
set_option maxRecDepth 100000 in
theorem refRight_hNot (c l m b : Int) (w : World) (h : (c == 0 && (l == 0 && b == 0)) = false) :
    Calls Tryd.prog 90 #[.agg #[.int .i64 2, .int .i64 c, .int .i64 l, .int .i64 m, .int .u64 b]] w fun e w' => e = .returned (.bool false) ∧ Below w.heap.size w w' := by
  have hu := Tryd.underlying29
  go_enter Tryd.func90, Tryd.ntmps90
  go_wp2
  repeat (go_quiet (fail); try go_wp2)
  go_ret
  exact ⟨rfl, by repeat (first | exact Below.refl _ _ | apply below_alloc | apply pw_below_drewN | apply below_drew1)⟩
set_option maxHeartbeats 4000000 in
set_option maxRecDepth 100000 in
theorem refRight_hLow (m : Int) (w : World) (h : m < 1) :
    Calls Tryd.prog 90 #[.agg #[.int .i64 2, .int .i64 0, .int .i64 0, .int .i64 m, .int .u64 0]] w fun e w' => e = .returned (.bool false) ∧ Below w.heap.size w w' := by
  have h1 : decide (1 ≤ m) = false := by simp; omega
  clear h
  have hu := Tryd.underlying29
  go_enter Tryd.func90, Tryd.ntmps90
  go_wp2
  repeat (go_quiet (fail); try go_wp2)
  go_ret
  exact ⟨rfl, by repeat (first | exact Below.refl _ _ | apply below_alloc | apply pw_below_drewN | apply below_drew1)⟩
set_option maxHeartbeats 4000000 in
set_option maxRecDepth 100000 in
theorem refRight_hHigh (m : Int) (w : World) (h : 1 ≤ m) :
    Calls Tryd.prog 90 #[.agg #[.int .i64 2, .int .i64 0, .int .i64 0, .int .i64 m, .int .u64 0]] w fun e w' => e = .returned (.bool (decide (m ≤ 8191))) ∧ Below w.heap.size w w' := by
  have h1 : decide (1 ≤ m) = true := by simp; omega
  clear h
  have hu := Tryd.underlying29
  go_enter Tryd.func90, Tryd.ntmps90
  go_wp2
  repeat (go_quiet (fail); try go_wp2)
  go_ret
  exact ⟨rfl, by repeat (first | exact Below.refl _ _ | apply below_alloc | apply pw_below_drewN | apply below_drew1)⟩
set_option maxHeartbeats 4000000 in
set_option maxRecDepth 100000 in
theorem refRight_lNot (c l m b : Int) (w : World) (h : (c == 0 && b == 0) = false) :
    Calls Tryd.prog 90 #[.agg #[.int .i64 4, .int .i64 c, .int .i64 l, .int .i64 m, .int .u64 b]] w fun e w' => e = .returned (.bool false) ∧ Below w.heap.size w w' := by
  have hu := Tryd.underlying29
  go_enter Tryd.func90, Tryd.ntmps90
  go_wp2
  repeat (go_quiet (fail); try go_wp2)
  go_ret
  exact ⟨rfl, by repeat (first | exact Below.refl _ _ | apply below_alloc | apply pw_below_drewN | apply below_drew1)⟩
set_option maxHeartbeats 4000000 in
set_option maxRecDepth 100000 in
theorem refRight_l1 (l m : Int) (w : World) (h : l < 0) :
    Calls Tryd.prog 90 #[.agg #[.int .i64 4, .int .i64 0, .int .i64 l, .int .i64 m, .int .u64 0]] w fun e w' => e = .returned (.bool false) ∧ Below w.heap.size w w' := by
  have h1 : decide (0 ≤ l) = false := by simp; omega
  clear h
  have hu := Tryd.underlying29
  go_enter Tryd.func90, Tryd.ntmps90
  go_wp2
  repeat (go_quiet (fail); try go_wp2)
  go_ret
  exact ⟨rfl, by repeat (first | exact Below.refl _ _ | apply below_alloc | apply pw_below_drewN | apply below_drew1)⟩
set_option maxHeartbeats 4000000 in
set_option maxRecDepth 100000 in
theorem refRight_l2 (l m : Int) (w : World) (h : 63 < l) :
    Calls Tryd.prog 90 #[.agg #[.int .i64 4, .int .i64 0, .int .i64 l, .int .i64 m, .int .u64 0]] w fun e w' => e = .returned (.bool false) ∧ Below w.heap.size w w' := by
  have h1 : decide (0 ≤ l) = true := by simp; omega
  have h2 : decide (l ≤ 63) = false := by simp; omega
  clear h
  have hu := Tryd.underlying29
  go_enter Tryd.func90, Tryd.ntmps90
  go_wp2
  repeat (go_quiet (fail); try go_wp2)
  go_ret
  exact ⟨rfl, by repeat (first | exact Below.refl _ _ | apply below_alloc | apply pw_below_drewN | apply below_drew1)⟩
set_option maxHeartbeats 4000000 in
set_option maxRecDepth 100000 in
theorem refRight_l3 (l m : Int) (w : World) (h : 0 ≤ l ∧ l ≤ 63) (hm : m < 0) :
    Calls Tryd.prog 90 #[.agg #[.int .i64 4, .int .i64 0, .int .i64 l, .int .i64 m, .int .u64 0]] w fun e w' => e = .returned (.bool false) ∧ Below w.heap.size w w' := by
  have h1 : decide (0 ≤ l) = true := by simp; omega
  have h2 : decide (l ≤ 63) = true := by simp; omega
  have h3 : decide (0 ≤ m) = false := by simp; omega
  clear h hm
  have hu := Tryd.underlying29
  go_enter Tryd.func90, Tryd.ntmps90
  go_wp2
  repeat (go_quiet (fail); try go_wp2)
  go_ret
  exact ⟨rfl, by repeat (first | exact Below.refl _ _ | apply below_alloc | apply pw_below_drewN | apply below_drew1)⟩
set_option maxHeartbeats 4000000 in
set_option maxRecDepth 100000 in
theorem refRight_l4 (l m : Int) (w : World) (h : 0 ≤ l ∧ l ≤ 63) (hm : 0 ≤ m) :
    Calls Tryd.prog 90 #[.agg #[.int .i64 4, .int .i64 0, .int .i64 l, .int .i64 m, .int .u64 0]] w fun e w' => e = .returned (.bool (decide (m ≤ 7))) ∧ Below w.heap.size w w' := by
  have h1 : decide (0 ≤ l) = true := by simp; omega
  have h2 : decide (l ≤ 63) = true := by simp; omega
  have h3 : decide (0 ≤ m) = true := by simp; omega
  clear h hm
  have hu := Tryd.underlying29
  go_enter Tryd.func90, Tryd.ntmps90
  go_wp2
  repeat (go_quiet (fail); try go_wp2)
  go_ret
  exact ⟨rfl, by repeat (first | exact Below.refl _ _ | apply below_alloc | apply pw_below_drewN | apply below_drew1)⟩
theorem lockfastref10_Right.calls (a0_0 a0_1 a0_2 a0_3 a0_4 : Int) (r : Bool) (w : World) (h : lockfastref10_Right.f a0_0 a0_1 a0_2 a0_3 a0_4 = some r) :
    Calls Tryd.prog 90 #[.agg #[.int .i64 a0_0, .int .i64 a0_1, .int .i64 a0_2, .int .i64 a0_3, .int .u64 a0_4]] w fun e w' => e = .returned (.bool r) ∧ Below w.heap.size w w' := by
  cases h
  have fin : ∀ (x y : Bool), x = y → Calls Tryd.prog 90 #[.agg #[.int .i64 a0_0, .int .i64 a0_1, .int .i64 a0_2, .int .i64 a0_3, .int .u64 a0_4]] w (fun e w' => e = .returned (.bool y) ∧ Below w.heap.size w w') →
      Calls Tryd.prog 90 #[.agg #[.int .i64 a0_0, .int .i64 a0_1, .int .i64 a0_2, .int .i64 a0_3, .int .u64 a0_4]] w (fun e w' => e = .returned (.bool x) ∧ Below w.heap.size w w') := fun x y e h => e ▸ h
  by_cases k0 : a0_0 = 0
  · subst k0
    exact fin _ _ (by unfold refRight; rw [if_pos (.inl rfl), Bool.eq_iff_iff]; simp) (refRight_k0 a0_1 a0_2 a0_3 a0_4 w)
  by_cases k3 : a0_0 = 3
  · subst k3
    exact fin _ _ (by unfold refRight; rw [if_pos (.inr rfl), Bool.eq_iff_iff]; simp) (refRight_k3 a0_1 a0_2 a0_3 a0_4 w)
  by_cases k1 : a0_0 = 1
  · subst k1
    by_cases hz : a0_2 = 0 ∧ a0_3 = 0
    · obtain ⟨rfl, rfl⟩ := hz
      by_cases c0 : a0_1 < 0
      · exact fin _ _ (by unfold refRight; rw [if_neg (by omega), if_pos rfl, decide_eq_false_iff_not]; omega) (refRight_runLow a0_1 a0_4 w c0)
      · by_cases c3 : 3 ≤ a0_1
        · exact fin _ _ (by unfold refRight; rw [if_neg (by omega), if_pos rfl, decide_eq_false_iff_not]; omega) (refRight_runHigh a0_1 a0_4 w c3)
        · rcases (show a0_1 = 0 ∨ a0_1 = 1 ∨ a0_1 = 2 by omega) with rfl | rfl | rfl
          · exact fin _ _ (by unfold refRight; rw [if_neg (by omega), if_pos rfl, decide_eq_decide]; omega) (refRight_run0 a0_4 w)
          · exact fin _ _ (by unfold refRight; rw [if_neg (by omega), if_pos rfl, decide_eq_decide]; omega) (refRight_run1 a0_4 w)
          · exact fin _ _ (by unfold refRight; rw [if_neg (by omega), if_pos rfl, decide_eq_decide]; omega) (refRight_run2 a0_4 w)
    · exact fin _ _ (by unfold refRight; rw [if_neg (by omega), if_pos rfl, decide_eq_false_iff_not]; omega) (refRight_runNot a0_1 a0_2 a0_3 a0_4 w (by rw [Bool.and_eq_false_iff]; simp; omega))
  by_cases k2 : a0_0 = 2
  · subst k2
    by_cases hz : a0_1 = 0 ∧ a0_2 = 0 ∧ a0_4 = 0
    · obtain ⟨rfl, rfl, rfl⟩ := hz
      by_cases m1 : a0_3 < 1
      · exact fin _ _ (by unfold refRight; rw [if_neg (by omega), if_neg (by omega), if_pos rfl, decide_eq_false_iff_not]; omega) (refRight_hLow a0_3 w m1)
      · exact fin _ _ (by unfold refRight; rw [if_neg (by omega), if_neg (by omega), if_pos rfl, decide_eq_decide]; omega) (refRight_hHigh a0_3 w (by omega))
    · exact fin _ _ (by unfold refRight; rw [if_neg (by omega), if_neg (by omega), if_pos rfl, decide_eq_false_iff_not]; omega) (refRight_hNot a0_1 a0_2 a0_3 a0_4 w (by simp only [Bool.and_eq_false_iff, beq_eq_false_iff_ne]; omega))
  by_cases k4 : a0_0 = 4
  · subst k4
    by_cases hz : a0_1 = 0 ∧ a0_4 = 0
    · obtain ⟨rfl, rfl⟩ := hz
      by_cases l1 : a0_2 < 0
      · exact fin _ _ (by unfold refRight; rw [if_neg (by omega), if_neg (by omega), if_neg (by omega), if_pos rfl, decide_eq_false_iff_not]; omega) (refRight_l1 a0_2 a0_3 w l1)
      by_cases l2 : 63 < a0_2
      · exact fin _ _ (by unfold refRight; rw [if_neg (by omega), if_neg (by omega), if_neg (by omega), if_pos rfl, decide_eq_false_iff_not]; omega) (refRight_l2 a0_2 a0_3 w l2)
      by_cases m1 : a0_3 < 0
      · exact fin _ _ (by unfold refRight; rw [if_neg (by omega), if_neg (by omega), if_neg (by omega), if_pos rfl, decide_eq_false_iff_not]; omega) (refRight_l3 a0_2 a0_3 w (by omega) m1)
      · exact fin _ _ (by unfold refRight; rw [if_neg (by omega), if_neg (by omega), if_neg (by omega), if_pos rfl, decide_eq_decide]; omega) (refRight_l4 a0_2 a0_3 w (by omega) (by omega))
    · exact fin _ _ (by unfold refRight; rw [if_neg (by omega), if_neg (by omega), if_neg (by omega), if_pos rfl, decide_eq_false_iff_not]; omega) (refRight_lNot a0_1 a0_2 a0_3 a0_4 w (by simp only [Bool.and_eq_false_iff, beq_eq_false_iff_ne]; omega))
  · exact fin _ _ (by unfold refRight; rw [if_neg (by omega), if_neg (by omega), if_neg (by omega), if_neg (by omega)]) (refRight_other a0_0 a0_1 a0_2 a0_3 a0_4 w (by simpa using k0) (by simpa using k3) (by simpa using k1) (by simpa using k2) (by simpa using k4))

end Go.Proofs.YtflbmccjfnkflaaDoor.Q
