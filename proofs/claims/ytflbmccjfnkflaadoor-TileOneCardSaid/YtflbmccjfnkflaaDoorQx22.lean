-- Written by lfprint.py of this session's own, by way of the kit's print.py; with hand-made contracts.
import Derived.Test.YtflbmccjfnkflaaDoorQx0
import Derived.Test.YtflbmccjfnkflaaDoorQx5
import Derived.Test.YtflbmccjfnkflaaDoorQx10
import Derived.Test.YtflbmccjfnkflaaDoorQx15
import Derived.Test.YtflbmccjfnkflaaDoorQx16
import Derived.Test.YtflbmccjfnkflaaDoorQx20
namespace Go.Proofs.YtflbmccjfnkflaaDoor.Q
open Go.RowKit Go.Proofs.YtflbmccjfnkflaaDoorW.PrintWords Go.Proofs.YtflbmccjfnkflaaDoorW.PrintLast Go.Proofs.YtflbmccjfnkflaaDoorW.PrintMore
attribute [local go_sem] max2_int min2_int max_two min_two max_three min_three max_four min_four   -- for this text's walks alone
set_option linter.unusedVariables false
set_option linter.unusedSimpArgs false

/-! ### lockfastlaw11_TileParts: function 5 -/
mutual
def lockfastlaw11_TileParts.j0 : Nat → List Int → List Int → Bool → Bool → Option (Bool)
  | 0, _, _, _, _ => none
  | k + 1, x0, x1, x5, x20 => if x20 = true then (some x5) else ((lockfastref11_Made.f k x0 30).bind fun t279 => ((lockfastref11_Made.f k x1 30).bind fun t282 => ((tile_Blocks.f k t279).bind fun t285 => ((tile_Blocks.f k t282).bind fun t288 => ((some (([] : List Int) : List Int)).bind fun y291 => (if y291.length + t279.length < 17592186044416 then ((some (y291 ++ t279 : List Int)).bind fun y294 => (if y294.length + t282.length < 17592186044416 then ((tile_Blocks.f k (y294 ++ t282)).bind fun t300 => (if (t300.length : Int) = (wrap64 ((t285.length : Int) + (t288.length : Int))) then ((some (([] : List Int) : List Int)).bind fun y303 => (if y303.length + t279.length < 17592186044416 then ((some (y303 ++ t279 : List Int)).bind fun y306 => (if y306.length + t282.length < 17592186044416 then ((tile_Right.f k (y306 ++ t282)).bind fun t312 => (lockfastlaw11_TileParts.j1 k x5 t279 t285 t288 t300 (!t312))) else (none))) else (none))) else (lockfastlaw11_TileParts.j1 k x5 t279 t285 t288 t300 true))) else (none))) else (none)))))))
def lockfastlaw11_TileParts.j1 : Nat → Bool → List Int → List (S42) → List (S42) → List (S42) → Bool → Option (Bool)
  | 0, _, _, _, _, _, _ => none
  | k + 1, x5, x6, x8, x9, x10, x52 => if x52 = true then (some false) else (lockfastlaw11_TileParts.l0 k x5 x6 x8 x9 x10 0)
def lockfastlaw11_TileParts.l0 : Nat → Bool → List Int → List (S42) → List (S42) → List (S42) → Int → Option (Bool)
  | 0, _, _, _, _, _, _ => none
  | k + 1, x5, x6, x8, x9, x10, x11 => if x11 < (x9.length : Int) then (if 0 ≤ x11 then (lockfastlaw11_TileParts.l0 k x5 x6 x8 (x9.set (x11 : Int).toNat (⟨wrap64 (((rd_T42 x9 x11).f0) + (x6.length : Int)), (rd_T42 x9 x11).f1, (rd_T42 x9 x11).f2⟩ : S42)) x10 (wrap64 (x11 + 1))) else (none)) else (if x5 = true then (if 0 ≤ (x8.length : Int) then (if (x8.length : Int) ≤ (x10.length : Int) then ((lockfastref11_Same.f k (x10.take ((x8.length : Int) : Int).toNat) x8).bind fun t319 => (if t319 = true then ((lockfastref11_Same.f k (x10.drop ((x8.length : Int) : Int).toNat) x9).bind fun t324 => (some t324)) else (some false))) else (none)) else (none)) else (some false))
end
def lockfastlaw11_TileParts.f (k : Nat) (l0 : List Int) (l1 : List Int) : Option (Bool) := (lockfastlaw11_awake.f k).bind fun t278 => (if (l0.length : Int) > 60 then (lockfastlaw11_TileParts.j0 k l0 l1 t278 true) else (lockfastlaw11_TileParts.j0 k l0 l1 t278 (decide ((l1.length : Int) > 60))))
theorem lockfastlaw11_TileParts.mono_l : ∀ k, (∀ y0 y1 y2 y3, LeO (lockfastlaw11_TileParts.j0 k y0 y1 y2 y3) (lockfastlaw11_TileParts.j0 (k + 1) y0 y1 y2 y3)) ∧ (∀ y0 y1 y2 y3 y4 y5, LeO (lockfastlaw11_TileParts.j1 k y0 y1 y2 y3 y4 y5) (lockfastlaw11_TileParts.j1 (k + 1) y0 y1 y2 y3 y4 y5)) ∧ (∀ y0 y1 y2 y3 y4 y5, LeO (lockfastlaw11_TileParts.l0 k y0 y1 y2 y3 y4 y5) (lockfastlaw11_TileParts.l0 (k + 1) y0 y1 y2 y3 y4 y5))
  | 0 => ⟨fun _ _ _ _ r h => by simp [lockfastlaw11_TileParts.j0] at h, fun _ _ _ _ _ _ r h => by simp [lockfastlaw11_TileParts.j1] at h, fun _ _ _ _ _ _ r h => by simp [lockfastlaw11_TileParts.l0] at h⟩
  | k + 1 => by
    obtain ⟨ih0, ih1, ih2⟩ := lockfastlaw11_TileParts.mono_l k
    refine ⟨?_, ?_, ?_⟩
    · intro y0 y1 y2 y3
      unfold lockfastlaw11_TileParts.j0
      repeat' first
      | (with_reducible exact ih0 _ _ _ _)
      | (with_reducible exact ih1 _ _ _ _ _ _)
      | (with_reducible exact ih2 _ _ _ _ _ _)
      | (with_reducible exact lockfastlaw11_awake.mono _)
      | (with_reducible exact lockfastref11_Made.mono _ _ _)
      | (with_reducible exact lockfastref11_Same.mono _ _ _)
      | (with_reducible exact tile_Blocks.mono _ _)
      | (with_reducible exact tile_Right.mono _ _)
      | (with_reducible exact LeO.refl _)
      | (with_reducible exact LeO.none _)
      | (with_reducible refine LeO.ite ?_ ?_)
      | (with_reducible refine LeO.bind ?_ (fun _ => ?_))
      | exact ih0 _ _ _ _
      | exact ih1 _ _ _ _ _ _
      | exact ih2 _ _ _ _ _ _
      | exact lockfastlaw11_awake.mono _
      | exact lockfastref11_Made.mono _ _ _
      | exact lockfastref11_Same.mono _ _ _
      | exact tile_Blocks.mono _ _
      | exact tile_Right.mono _ _
      | exact LeO.none _
      | refine LeO.ite ?_ ?_
      | refine LeO.bind ?_ (fun _ => ?_)
    · intro y0 y1 y2 y3 y4 y5
      unfold lockfastlaw11_TileParts.j1
      repeat' first
      | (with_reducible exact ih0 _ _ _ _)
      | (with_reducible exact ih1 _ _ _ _ _ _)
      | (with_reducible exact ih2 _ _ _ _ _ _)
      | (with_reducible exact lockfastlaw11_awake.mono _)
      | (with_reducible exact lockfastref11_Made.mono _ _ _)
      | (with_reducible exact lockfastref11_Same.mono _ _ _)
      | (with_reducible exact tile_Blocks.mono _ _)
      | (with_reducible exact tile_Right.mono _ _)
      | (with_reducible exact LeO.refl _)
      | (with_reducible exact LeO.none _)
      | (with_reducible refine LeO.ite ?_ ?_)
      | (with_reducible refine LeO.bind ?_ (fun _ => ?_))
      | exact ih0 _ _ _ _
      | exact ih1 _ _ _ _ _ _
      | exact ih2 _ _ _ _ _ _
      | exact lockfastlaw11_awake.mono _
      | exact lockfastref11_Made.mono _ _ _
      | exact lockfastref11_Same.mono _ _ _
      | exact tile_Blocks.mono _ _
      | exact tile_Right.mono _ _
      | exact LeO.none _
      | refine LeO.ite ?_ ?_
      | refine LeO.bind ?_ (fun _ => ?_)
    · intro y0 y1 y2 y3 y4 y5
      unfold lockfastlaw11_TileParts.l0
      repeat' first
      | (with_reducible exact ih0 _ _ _ _)
      | (with_reducible exact ih1 _ _ _ _ _ _)
      | (with_reducible exact ih2 _ _ _ _ _ _)
      | (with_reducible exact lockfastlaw11_awake.mono _)
      | (with_reducible exact lockfastref11_Made.mono _ _ _)
      | (with_reducible exact lockfastref11_Same.mono _ _ _)
      | (with_reducible exact tile_Blocks.mono _ _)
      | (with_reducible exact tile_Right.mono _ _)
      | (with_reducible exact LeO.refl _)
      | (with_reducible exact LeO.none _)
      | (with_reducible refine LeO.ite ?_ ?_)
      | (with_reducible refine LeO.bind ?_ (fun _ => ?_))
      | exact ih0 _ _ _ _
      | exact ih1 _ _ _ _ _ _
      | exact ih2 _ _ _ _ _ _
      | exact lockfastlaw11_awake.mono _
      | exact lockfastref11_Made.mono _ _ _
      | exact lockfastref11_Same.mono _ _ _
      | exact tile_Blocks.mono _ _
      | exact tile_Right.mono _ _
      | exact LeO.none _
      | refine LeO.ite ?_ ?_
      | refine LeO.bind ?_ (fun _ => ?_)
theorem lockfastlaw11_TileParts.mono : ∀ a0 a1 k, LeO (lockfastlaw11_TileParts.f k a0 a1) (lockfastlaw11_TileParts.f (k + 1) a0 a1) := by
  intro a0 a1 k
  obtain ⟨ih0, ih1, ih2⟩ := lockfastlaw11_TileParts.mono_l k
  unfold lockfastlaw11_TileParts.f
  repeat' first
      | (with_reducible exact ih0 _ _ _ _)
      | (with_reducible exact ih1 _ _ _ _ _ _)
      | (with_reducible exact ih2 _ _ _ _ _ _)
      | (with_reducible exact lockfastlaw11_awake.mono _)
      | (with_reducible exact lockfastref11_Made.mono _ _ _)
      | (with_reducible exact lockfastref11_Same.mono _ _ _)
      | (with_reducible exact tile_Blocks.mono _ _)
      | (with_reducible exact tile_Right.mono _ _)
      | (with_reducible exact LeO.refl _)
      | (with_reducible exact LeO.none _)
      | (with_reducible refine LeO.ite ?_ ?_)
      | (with_reducible refine LeO.bind ?_ (fun _ => ?_))
      | exact ih0 _ _ _ _
      | exact ih1 _ _ _ _ _ _
      | exact ih2 _ _ _ _ _ _
      | exact lockfastlaw11_awake.mono _
      | exact lockfastref11_Made.mono _ _ _
      | exact lockfastref11_Same.mono _ _ _
      | exact tile_Blocks.mono _ _
      | exact tile_Right.mono _ _
      | exact LeO.none _
      | refine LeO.ite ?_ ?_
      | refine LeO.bind ?_ (fun _ => ?_)
set_option maxHeartbeats 8000000 in
set_option maxRecDepth 100000 in
theorem lockfastlaw11_TileParts.calls (k : Nat) (A0 : Option Addr) (c0 : Nat) (l0 : List Int) (A1 : Option Addr) (c1 : Nat) (l1 : List Int) (r : Bool) (w : World) (hr0 : Kd.C (Kd.int .u16) w A0 l0.length l0) (hc0 : l0.length ≤ c0) (hr1 : Kd.C (Kd.int .u16) w A1 l1.length l1) (hc1 : l1.length ≤ c1) (h : lockfastlaw11_TileParts.f k l0 l1 = some r) :
    CallsG 5 #[.slice A0 l0.length c0, .slice A1 l1.length c1] w fun e w' => e = .returned (.bool r) ∧ Below w.heap.size w w' := by
  intro HG0_
  have HG := Aside0.mk HG0_
  clear HG0_
  have HR0 := Aside0.mk hr0
  have HC0 := Aside0.mk hc0
  clear hr0 hc0
  have HR1 := Aside0.mk hr1
  have HC1 := Aside0.mk hc1
  clear hr1 hc1
  have HB := Aside0.mk (Below.refl w.heap.size w)
  have H : ((lockfastlaw11_awake.f k).bind fun t278 => (if (l0.length : Int) > 60 then (lockfastlaw11_TileParts.j0 k l0 l1 t278 true) else (lockfastlaw11_TileParts.j0 k l0 l1 t278 (decide ((l1.length : Int) > 60))))) = some r := h
  clear h
  replace H := Option.bind_eq_some_iff.mp H
  obtain ⟨t278, A30, H⟩ := H
  replace H : (if (l0.length : Int) > 60 then (lockfastlaw11_TileParts.j0 k l0 l1 t278 true) else (lockfastlaw11_TileParts.j0 k l0 l1 t278 (decide ((l1.length : Int) > 60)))) = some r := H
  have A3 := Aside0.mk A30
  clear A30
  have HC4 := Aside0.mk H
  clear H
  go_enter Tryd.func5, Tryd.ntmps5
  go_upto_region 2 with (first | ((with_reducible refine gate_callee (f := 15) rfl ?_); refine goesL_ (some 12) rfl rfl Tryd.func15 (by kernel_rfl) rfl #[] rfl (by (try simp only [List.map_toArray, List.map_cons, List.map_nil]); first | done | rfl | (simp only [List.length_drop, List.length_take]; rfl)) ?_; (with_reducible refine (lockfastlaw11_awake.calls k  t278 _ A3.out).mono ?_); rintro e w5 ⟨rfl, hb⟩; refine ⟨_, rfl, ?_⟩; have n0_ := Aside0.mk (below_step (by repeat (first | (with_reducible first | exact HB.out | apply below_alloc | apply pw_below_drewN | apply below_drew1) | exact HB.out)) hb); clear HB; have HB := n0_; clear n0_; (try clear hb); (try clear hb2); (try clear hk); (try clear hi)))
  (try simp only [Act.put, List.setIfInBounds_toArray, List.set_cons_zero, List.set_cons_succ])
  go_cut [20] (fun v20 wc => ∃ (kq : Nat) (x20_3 : Bool), v20 = .bool x20_3 ∧ Aside0 (lockfastlaw11_TileParts.j0 kq l0 l1 t278 x20_3 = some r) ∧ Aside0 (kq ≤ k) ∧ Aside0 (Below w.heap.size w wc))
  case first =>
    have H := HC4.out
    clear HC4
    by_cases c6 : (l0.length : Int) > 60
    · rw [if_pos c6] at H
      have c6b0 : decide (60 < (l0.length : Int)) = true := decide_eq_true c6
      have c6b1 : decide (60 < l0.length) = true := decide_eq_true (by omega)
      clear c6
      (first | rw [c6b0] | (simp only [i64_w, i32_w]; rw [c6b0]) | skip)
      have H' := Aside0.mk H
      clear H
      go_wp2
      go_meet
      case rel => exact ⟨_, (true), (by first | rfl | (simp; done) | (simp [*]; done)), H', ⟨by first | omega | exact Nat.le_refl _⟩, ⟨by repeat (first | (with_reducible first | exact HB.out | apply below_alloc | apply pw_below_drewN | apply below_drew1) | exact HB.out)⟩⟩
    · rw [if_neg c6] at H
      have c6b0 : decide (60 < (l0.length : Int)) = false := decide_eq_false c6
      have c6b1 : decide (60 < l0.length) = false := decide_eq_false (by omega)
      clear c6
      (first | rw [c6b0] | (simp only [i64_w, i32_w]; rw [c6b0]) | skip)
      have H' := Aside0.mk H
      clear H
      go_wp2
      go_meet
      case rel => exact ⟨_, (decide ((l1.length : Int) > 60)), (by first | rfl | (simp; done) | (simp [*]; done)), H', ⟨by first | omega | exact Nat.le_refl _⟩, ⟨by repeat (first | (with_reducible first | exact HB.out | apply below_alloc | apply pw_below_drewN | apply below_drew1) | exact HB.out)⟩⟩
  case rest =>
    clear HC4
    try clear c1
    try clear p2
    try clear c5
    try clear c6
    try clear c6b0
    try clear c6b1
    obtain ⟨kq, x20_3, rfl, HA, HJ3, HB⟩ := hcut
    cases kq with
    | zero => exact absurd HA.out (by simp [lockfastlaw11_TileParts.j0])
    | succ kj3 =>
      have H := HA.out
      clear HA
      simp only [lockfastlaw11_TileParts.j0] at H
      by_cases c7 : x20_3 = true
      · subst c7
        have H1 : (some t278) = some r := by rw [if_pos rfl] at H; exact H
        clear H
        have H := H1
        clear H1
        obtain rfl := Option.some.inj H
        go_wp2
        go_ret
        exact ⟨by first | rfl | (simp [errW_none, errW_some] <;> rfl) | (simp [*, errW_none, errW_some] <;> rfl), by repeat (first | (with_reducible first | exact HB.out | apply below_alloc | apply pw_below_drewN | apply below_drew1) | exact HB.out)⟩
      · replace c7 := Bool.eq_false_iff.mpr c7
        subst c7
        have H1 : ((lockfastref11_Made.f kj3 l0 30).bind fun t279 => ((lockfastref11_Made.f kj3 l1 30).bind fun t282 => ((tile_Blocks.f kj3 t279).bind fun t285 => ((tile_Blocks.f kj3 t282).bind fun t288 => ((some (([] : List Int) : List Int)).bind fun y291 => (if y291.length + t279.length < 17592186044416 then ((some (y291 ++ t279 : List Int)).bind fun y294 => (if y294.length + t282.length < 17592186044416 then ((tile_Blocks.f kj3 (y294 ++ t282)).bind fun t300 => (if (t300.length : Int) = (wrap64 ((t285.length : Int) + (t288.length : Int))) then ((some (([] : List Int) : List Int)).bind fun y303 => (if y303.length + t279.length < 17592186044416 then ((some (y303 ++ t279 : List Int)).bind fun y306 => (if y306.length + t282.length < 17592186044416 then ((tile_Right.f kj3 (y306 ++ t282)).bind fun t312 => (lockfastlaw11_TileParts.j1 kj3 t278 t279 t285 t288 t300 (!t312))) else (none))) else (none))) else (lockfastlaw11_TileParts.j1 kj3 t278 t279 t285 t288 t300 true))) else (none))) else (none))))))) = some r := by rw [if_neg (show ¬ (false = true) by decide)] at H; exact H
        clear H
        have H := H1
        clear H1
        replace H := Option.bind_eq_some_iff.mp H
        obtain ⟨t279, A80, H⟩ := H
        replace H : ((lockfastref11_Made.f kj3 l1 30).bind fun t282 => ((tile_Blocks.f kj3 t279).bind fun t285 => ((tile_Blocks.f kj3 t282).bind fun t288 => ((some (([] : List Int) : List Int)).bind fun y291 => (if y291.length + t279.length < 17592186044416 then ((some (y291 ++ t279 : List Int)).bind fun y294 => (if y294.length + t282.length < 17592186044416 then ((tile_Blocks.f kj3 (y294 ++ t282)).bind fun t300 => (if (t300.length : Int) = (wrap64 ((t285.length : Int) + (t288.length : Int))) then ((some (([] : List Int) : List Int)).bind fun y303 => (if y303.length + t279.length < 17592186044416 then ((some (y303 ++ t279 : List Int)).bind fun y306 => (if y306.length + t282.length < 17592186044416 then ((tile_Right.f kj3 (y306 ++ t282)).bind fun t312 => (lockfastlaw11_TileParts.j1 kj3 t278 t279 t285 t288 t300 (!t312))) else (none))) else (none))) else (lockfastlaw11_TileParts.j1 kj3 t278 t279 t285 t288 t300 true))) else (none))) else (none)))))) = some r := H
        have A8 := Aside0.mk A80
        clear A80
        replace H := Option.bind_eq_some_iff.mp H
        obtain ⟨t282, A90, H⟩ := H
        replace H : ((tile_Blocks.f kj3 t279).bind fun t285 => ((tile_Blocks.f kj3 t282).bind fun t288 => ((some (([] : List Int) : List Int)).bind fun y291 => (if y291.length + t279.length < 17592186044416 then ((some (y291 ++ t279 : List Int)).bind fun y294 => (if y294.length + t282.length < 17592186044416 then ((tile_Blocks.f kj3 (y294 ++ t282)).bind fun t300 => (if (t300.length : Int) = (wrap64 ((t285.length : Int) + (t288.length : Int))) then ((some (([] : List Int) : List Int)).bind fun y303 => (if y303.length + t279.length < 17592186044416 then ((some (y303 ++ t279 : List Int)).bind fun y306 => (if y306.length + t282.length < 17592186044416 then ((tile_Right.f kj3 (y306 ++ t282)).bind fun t312 => (lockfastlaw11_TileParts.j1 kj3 t278 t279 t285 t288 t300 (!t312))) else (none))) else (none))) else (lockfastlaw11_TileParts.j1 kj3 t278 t279 t285 t288 t300 true))) else (none))) else (none))))) = some r := H
        have A9 := Aside0.mk A90
        clear A90
        replace H := Option.bind_eq_some_iff.mp H
        obtain ⟨t285, A100, H⟩ := H
        replace H : ((tile_Blocks.f kj3 t282).bind fun t288 => ((some (([] : List Int) : List Int)).bind fun y291 => (if y291.length + t279.length < 17592186044416 then ((some (y291 ++ t279 : List Int)).bind fun y294 => (if y294.length + t282.length < 17592186044416 then ((tile_Blocks.f kj3 (y294 ++ t282)).bind fun t300 => (if (t300.length : Int) = (wrap64 ((t285.length : Int) + (t288.length : Int))) then ((some (([] : List Int) : List Int)).bind fun y303 => (if y303.length + t279.length < 17592186044416 then ((some (y303 ++ t279 : List Int)).bind fun y306 => (if y306.length + t282.length < 17592186044416 then ((tile_Right.f kj3 (y306 ++ t282)).bind fun t312 => (lockfastlaw11_TileParts.j1 kj3 t278 t279 t285 t288 t300 (!t312))) else (none))) else (none))) else (lockfastlaw11_TileParts.j1 kj3 t278 t279 t285 t288 t300 true))) else (none))) else (none)))) = some r := H
        have A10 := Aside0.mk A100
        clear A100
        replace H := Option.bind_eq_some_iff.mp H
        obtain ⟨t288, A110, H⟩ := H
        replace H : ((some (([] : List Int) : List Int)).bind fun y291 => (if y291.length + t279.length < 17592186044416 then ((some (y291 ++ t279 : List Int)).bind fun y294 => (if y294.length + t282.length < 17592186044416 then ((tile_Blocks.f kj3 (y294 ++ t282)).bind fun t300 => (if (t300.length : Int) = (wrap64 ((t285.length : Int) + (t288.length : Int))) then ((some (([] : List Int) : List Int)).bind fun y303 => (if y303.length + t279.length < 17592186044416 then ((some (y303 ++ t279 : List Int)).bind fun y306 => (if y306.length + t282.length < 17592186044416 then ((tile_Right.f kj3 (y306 ++ t282)).bind fun t312 => (lockfastlaw11_TileParts.j1 kj3 t278 t279 t285 t288 t300 (!t312))) else (none))) else (none))) else (lockfastlaw11_TileParts.j1 kj3 t278 t279 t285 t288 t300 true))) else (none))) else (none))) = some r := H
        have A11 := Aside0.mk A110
        clear A110
        obtain ⟨y291, hy291⟩ : ∃ y_ : List Int, y_ = (([] : List Int)) := ⟨_, rfl⟩
        replace H : (if y291.length + t279.length < 17592186044416 then ((some (y291 ++ t279 : List Int)).bind fun y294 => (if y294.length + t282.length < 17592186044416 then ((tile_Blocks.f kj3 (y294 ++ t282)).bind fun t300 => (if (t300.length : Int) = (wrap64 ((t285.length : Int) + (t288.length : Int))) then ((some (([] : List Int) : List Int)).bind fun y303 => (if y303.length + t279.length < 17592186044416 then ((some (y303 ++ t279 : List Int)).bind fun y306 => (if y306.length + t282.length < 17592186044416 then ((tile_Right.f kj3 (y306 ++ t282)).bind fun t312 => (lockfastlaw11_TileParts.j1 kj3 t278 t279 t285 t288 t300 (!t312))) else (none))) else (none))) else (lockfastlaw11_TileParts.j1 kj3 t278 t279 t285 t288 t300 true))) else (none))) else (none)) = some r := by first | (rw [hy291]; with_reducible exact H) | (have H2_ := (Option.bind_some _ _).symm.trans H; rw [hy291]; with_reducible exact H2_) | (have H2_ := (Option.bind_some _ _).symm.trans H; with_reducible exact H2_) | with_reducible exact H | (rw [hy291]; exact H) | exact H
        have Ny291 := Aside0.mk hy291
        clear hy291
        by_cases c12 : y291.length + t279.length < 17592186044416
        · rw [if_pos c12] at H
          have LMc12 := Aside0.mk c12
          clear c12
          obtain ⟨y294, hy294⟩ : ∃ y_ : List Int, y_ = (y291 ++ t279) := ⟨_, rfl⟩
          replace H : (if y294.length + t282.length < 17592186044416 then ((tile_Blocks.f kj3 (y294 ++ t282)).bind fun t300 => (if (t300.length : Int) = (wrap64 ((t285.length : Int) + (t288.length : Int))) then ((some (([] : List Int) : List Int)).bind fun y303 => (if y303.length + t279.length < 17592186044416 then ((some (y303 ++ t279 : List Int)).bind fun y306 => (if y306.length + t282.length < 17592186044416 then ((tile_Right.f kj3 (y306 ++ t282)).bind fun t312 => (lockfastlaw11_TileParts.j1 kj3 t278 t279 t285 t288 t300 (!t312))) else (none))) else (none))) else (lockfastlaw11_TileParts.j1 kj3 t278 t279 t285 t288 t300 true))) else (none)) = some r := by first | (rw [hy294]; with_reducible exact H) | (have H2_ := (Option.bind_some _ _).symm.trans H; rw [hy294]; with_reducible exact H2_) | (have H2_ := (Option.bind_some _ _).symm.trans H; with_reducible exact H2_) | with_reducible exact H | (rw [hy294]; exact H) | exact H
          have Ny294 := Aside0.mk hy294
          clear hy294
          by_cases c13 : y294.length + t282.length < 17592186044416
          · rw [if_pos c13] at H
            have LMc13 := Aside0.mk c13
            clear c13
            obtain ⟨y297, hy297⟩ : ∃ y_ : List Int, y_ = (y294 ++ t282) := ⟨_, rfl⟩
            replace H : ((tile_Blocks.f kj3 y297).bind fun t300 => (if (t300.length : Int) = (wrap64 ((t285.length : Int) + (t288.length : Int))) then ((some (([] : List Int) : List Int)).bind fun y303 => (if y303.length + t279.length < 17592186044416 then ((some (y303 ++ t279 : List Int)).bind fun y306 => (if y306.length + t282.length < 17592186044416 then ((tile_Right.f kj3 (y306 ++ t282)).bind fun t312 => (lockfastlaw11_TileParts.j1 kj3 t278 t279 t285 t288 t300 (!t312))) else (none))) else (none))) else (lockfastlaw11_TileParts.j1 kj3 t278 t279 t285 t288 t300 true))) = some r := by first | (rw [hy297]; with_reducible exact H) | (have H2_ := (Option.bind_some _ _).symm.trans H; rw [hy297]; with_reducible exact H2_) | (have H2_ := (Option.bind_some _ _).symm.trans H; with_reducible exact H2_) | with_reducible exact H | (rw [hy297]; exact H) | exact H
            have Ny297 := Aside0.mk hy297
            clear hy297
            replace H := Option.bind_eq_some_iff.mp H
            obtain ⟨t300, A140, H⟩ := H
            replace H : (if (t300.length : Int) = (wrap64 ((t285.length : Int) + (t288.length : Int))) then ((some (([] : List Int) : List Int)).bind fun y303 => (if y303.length + t279.length < 17592186044416 then ((some (y303 ++ t279 : List Int)).bind fun y306 => (if y306.length + t282.length < 17592186044416 then ((tile_Right.f kj3 (y306 ++ t282)).bind fun t312 => (lockfastlaw11_TileParts.j1 kj3 t278 t279 t285 t288 t300 (!t312))) else (none))) else (none))) else (lockfastlaw11_TileParts.j1 kj3 t278 t279 t285 t288 t300 true)) = some r := H
            have A14 := Aside0.mk A140
            clear A140
            have HC15 := Aside0.mk H
            clear H
            go_upto_region 9 with (first | ((with_reducible refine gate_callee (f := 20) rfl ?_); refine goesL_ (some 23) rfl rfl Tryd.func20 (by kernel_rfl) rfl #[.slice A0 l0.length c0, .int .i64 30] rfl (by (try simp only [List.map_toArray, List.map_cons, List.map_nil]); first | done | rfl | (simp only [List.length_drop, List.length_take]; rfl)) ?_; (with_reducible refine (lockfastref11_Made.calls kj3 _ _ l0 30 t279 _ ?side1 ?side2 A8.out).mono ?_); (case side1 => repeat (first | exact (Kd.C_below HR0.out HB.out) | (with_reducible refine Kd.C_alloc ?_ _) | (with_reducible refine Kd.C_drewN ?_ _) | (with_reducible refine Kd.C_drew ?_))); (case side2 => exact HC0.out); rintro e w16 ⟨v280, rfl, ho0, hb⟩; refine ⟨_, rfl, ?_⟩; have n0_ := Aside0.mk (Kd.R_lower ho0 (below_size (by repeat (first | (with_reducible first | exact HB.out | apply below_alloc | apply pw_below_drewN | apply below_drew1) | exact HB.out)))); have n1_ := Aside0.mk (below_step (by repeat (first | (with_reducible first | exact HB.out | apply below_alloc | apply pw_below_drewN | apply below_drew1) | exact HB.out)) hb); clear HB; have HO281 := n0_; have HB := n1_; clear n0_ n1_; (try clear hb); (try clear hb2); (try clear hk); (try clear hi); (try clear ho0)) | ((with_reducible refine gate_callee (f := 20) rfl ?_); refine goesL_ (some 25) rfl rfl Tryd.func20 (by kernel_rfl) rfl #[.slice A1 l1.length c1, .int .i64 30] rfl (by (try simp only [List.map_toArray, List.map_cons, List.map_nil]); first | done | rfl | (simp only [List.length_drop, List.length_take]; rfl)) ?_; (with_reducible refine (lockfastref11_Made.calls kj3 _ _ l1 30 t282 _ ?side1 ?side2 A9.out).mono ?_); (case side1 => repeat (first | exact (Kd.C_below HR1.out HB.out) | (with_reducible refine Kd.C_alloc ?_ _) | (with_reducible refine Kd.C_drewN ?_ _) | (with_reducible refine Kd.C_drew ?_))); (case side2 => exact HC1.out); rintro e w17 ⟨v283, rfl, ho0, hb⟩; refine ⟨_, rfl, ?_⟩; have n0_ := Aside0.mk (Kd.R_elder' (by (with_reducible repeat (first | apply Kd.R_alloc | apply Kd.R_drewN | apply Kd.R_drew)); exact HO281.out) (Kd.R_base ho0) hb); have n1_ := Aside0.mk (Kd.R_lower (Kd.R_new' ho0 (Kd.R_lt (by (with_reducible repeat (first | apply Kd.R_alloc | apply Kd.R_drewN | apply Kd.R_drew)); exact HO281.out))) (below_size (by repeat (first | (with_reducible first | exact HB.out | apply below_alloc | apply pw_below_drewN | apply below_drew1) | exact HB.out)))); have n2_ := Aside0.mk (below_step (by repeat (first | (with_reducible first | exact HB.out | apply below_alloc | apply pw_below_drewN | apply below_drew1) | exact HB.out)) hb); clear HO281; clear HB; have HO281 := n0_; have HO284 := n1_; have HB := n2_; clear n0_ n1_ n2_; (try clear hb); (try clear hb2); (try clear hk); (try clear hi); (try clear ho0); obtain ⟨Ao18, co18, eo18⟩ := Kd.R_slice HO281.out; subst eo18) | ((with_reducible refine gate_callee (f := 23) rfl ?_); refine goesL_ (some 27) rfl rfl Tryd.func23 (by kernel_rfl) rfl #[.slice Ao18 t279.length co18] rfl (by (try simp only [List.map_toArray, List.map_cons, List.map_nil]); first | done | rfl | (simp only [List.length_drop, List.length_take]; rfl)) ?_; (with_reducible refine (tile_Blocks.calls kj3 _ _ t279 t285 _ ?side1 ?side2 A10.out).mono ?_); (case side1 => repeat (first | exact (Kd.R_reads' HO281.out).2.2 | (with_reducible refine Kd.C_alloc ?_ _) | (with_reducible refine Kd.C_drewN ?_ _) | (with_reducible refine Kd.C_drew ?_))); (case side2 => exact (Kd.R_reads' HO281.out).2.1); rintro e w19 ⟨v286, rfl, ho0, hb⟩; refine ⟨_, rfl, ?_⟩; have n0_ := Aside0.mk (Kd.R_below (by (with_reducible repeat (first | apply Kd.R_alloc | apply Kd.R_drewN | apply Kd.R_drew)); exact HO281.out) hb); have n1_ := Aside0.mk (Kd.R_below (by (with_reducible repeat (first | apply Kd.R_alloc | apply Kd.R_drewN | apply Kd.R_drew)); exact HO284.out) hb); have n2_ := Aside0.mk (Kd.R_lower ho0 (below_size (by repeat (first | (with_reducible first | exact HB.out | apply below_alloc | apply pw_below_drewN | apply below_drew1) | exact HB.out)))); have n3_ := Aside0.mk (below_step (by repeat (first | (with_reducible first | exact HB.out | apply below_alloc | apply pw_below_drewN | apply below_drew1) | exact HB.out)) hb); clear HO281; clear HO284; clear HB; have HO281 := n0_; have HO284 := n1_; have HO287 := n2_; have HB := n3_; clear n0_ n1_ n2_ n3_; (try clear hb); (try clear hb2); (try clear hk); (try clear hi); (try clear ho0); obtain ⟨Ao20, co20, eo20⟩ := Kd.R_slice HO284.out; subst eo20) | ((with_reducible refine gate_callee (f := 23) rfl ?_); refine goesL_ (some 29) rfl rfl Tryd.func23 (by kernel_rfl) rfl #[.slice Ao20 t282.length co20] rfl (by (try simp only [List.map_toArray, List.map_cons, List.map_nil]); first | done | rfl | (simp only [List.length_drop, List.length_take]; rfl)) ?_; (with_reducible refine (tile_Blocks.calls kj3 _ _ t282 t288 _ ?side1 ?side2 A11.out).mono ?_); (case side1 => repeat (first | exact (Kd.R_reads' HO284.out).2.2 | (with_reducible refine Kd.C_alloc ?_ _) | (with_reducible refine Kd.C_drewN ?_ _) | (with_reducible refine Kd.C_drew ?_))); (case side2 => exact (Kd.R_reads' HO284.out).2.1); rintro e w21 ⟨v289, rfl, ho0, hb⟩; refine ⟨_, rfl, ?_⟩; have n0_ := Aside0.mk (Kd.R_below (by (with_reducible repeat (first | apply Kd.R_alloc | apply Kd.R_drewN | apply Kd.R_drew)); exact HO281.out) hb); have n1_ := Aside0.mk (Kd.R_below (by (with_reducible repeat (first | apply Kd.R_alloc | apply Kd.R_drewN | apply Kd.R_drew)); exact HO284.out) hb); have n2_ := Aside0.mk (Kd.R_elder' (by (with_reducible repeat (first | apply Kd.R_alloc | apply Kd.R_drewN | apply Kd.R_drew)); exact HO287.out) (Kd.R_base ho0) hb); have n3_ := Aside0.mk (Kd.R_lower (Kd.R_new' ho0 (Kd.R_lt (by (with_reducible repeat (first | apply Kd.R_alloc | apply Kd.R_drewN | apply Kd.R_drew)); exact HO287.out))) (below_size (by repeat (first | (with_reducible first | exact HB.out | apply below_alloc | apply pw_below_drewN | apply below_drew1) | exact HB.out)))); have n4_ := Aside0.mk (below_step (by repeat (first | (with_reducible first | exact HB.out | apply below_alloc | apply pw_below_drewN | apply below_drew1) | exact HB.out)) hb); clear HO281; clear HO284; clear HO287; clear HB; have HO281 := n0_; have HO284 := n1_; have HO287 := n2_; have HO290 := n3_; have HB := n4_; clear n0_ n1_ n2_ n3_ n4_; (try clear hb); (try clear hb2); (try clear hk); (try clear hi); (try clear ho0)) | ((with_reducible refine gate_dst (N := 30) rfl ?_); (try (refine gate_guard (by rfl) ?_; dsimp only)); refine Kd.R_lit (Kd.int .u64) _ 27 ?hg (N := 30) ?hd (xs := ([] : List Int)) (inner := []) (ok := fun _ => True) (okp := fun _ => True) ?hr ?hp (fun _ hk => hk) trivial (Below.refl _ _) (Nat.le_refl _) (by simp) ?_; (case hd => rfl); (case hg => rfl); (case hr => first | (go_simp; done) | (go_simp; rfl)); (case hp => exact (Reps.none _ _)); intro v292 w22 ho23 hb hg_ hnew_; clear hg_ hnew_; (first | rw [← Ny291.out] at ho23 | (simp only [Int.reduceToNat] at ho23; rw [← Ny291.out] at ho23)); have n0_ := Aside0.mk (Kd.R_elder' (by (with_reducible repeat (first | apply Kd.R_alloc | apply Kd.R_drewN | apply Kd.R_drew)); exact HO281.out) (Kd.R_base ho23) hb); have n1_ := Aside0.mk (Kd.R_elder' (by (with_reducible repeat (first | apply Kd.R_alloc | apply Kd.R_drewN | apply Kd.R_drew)); exact HO284.out) (Kd.R_base ho23) hb); have n2_ := Aside0.mk (Kd.R_below (by (with_reducible repeat (first | apply Kd.R_alloc | apply Kd.R_drewN | apply Kd.R_drew)); exact HO287.out) hb); have n3_ := Aside0.mk (Kd.R_below (by (with_reducible repeat (first | apply Kd.R_alloc | apply Kd.R_drewN | apply Kd.R_drew)); exact HO290.out) hb); have n4_ := Aside0.mk (Kd.R_lower (Kd.R_new' (Kd.R_new' ho23 (Kd.R_lt (by (with_reducible repeat (first | apply Kd.R_alloc | apply Kd.R_drewN | apply Kd.R_drew)); exact HO281.out))) (Kd.R_lt (by (with_reducible repeat (first | apply Kd.R_alloc | apply Kd.R_drewN | apply Kd.R_drew)); exact HO284.out))) (below_size (by repeat (first | (with_reducible first | exact HB.out | apply below_alloc | apply pw_below_drewN | apply below_drew1) | exact HB.out)))); have n5_ := Aside0.mk (below_step (by repeat (first | (with_reducible first | exact HB.out | apply below_alloc | apply pw_below_drewN | apply below_drew1) | exact HB.out)) hb); clear HO281; clear HO284; clear HO287; clear HO290; clear HB; have HO281 := n0_; have HO284 := n1_; have HO287 := n2_; have HO290 := n3_; have HO293 := n4_; have HB := n5_; clear n0_ n1_ n2_ n3_ n4_ n5_; clear hb ho23) | ((with_reducible refine gate_builtin (b := .append) (xs := #[.tmp 30, .tmp 31]) rfl ?_); (try (refine gate_guard (by rfl) ?_; dsimp only)); at_builtin; refine Kd.R_append_rows (Kd.int .u64) (w0 := w) w.heap.size rfl (.tmp 30) (.tmp 31) 22 27 (.int .u64 0) 8 rfl Tryd.underlying22 info27 rfl (by decide) (by omega) v292 y291 t279 _ _ _ (fun k_ => some k_ ≠ (.slice Ao18 t279.length co18 : Value).ownBlock ∧ some k_ ≠ (.slice Ao20 t282.length co20 : Value).ownBlock) (fun _ => False) rfl rfl ?aO ?aR (fun _ _ h => h) (fun _ h => h.elim) ?aF ?aB ?aS ?aL ?_; (case aR => repeat (first | exact (Kd.R_reads' HO281.out).2.2 | (with_reducible refine Kd.C_alloc ?_ _) | (with_reducible refine Kd.C_drewN ?_ _) | (with_reducible refine Kd.C_drew ?_))); (case aB => exact (by repeat (first | (with_reducible first | exact HB.out | apply below_alloc | apply pw_below_drewN | apply below_drew1) | exact HB.out))); (case aF => exact (fun k_ hk => ⟨Kd.fresh' (Kd.R_lt (by (with_reducible repeat (first | apply Kd.R_alloc | apply Kd.R_drewN | apply Kd.R_drew)); exact HO281.out)) k_ hk, Kd.fresh' (Kd.R_lt (by (with_reducible repeat (first | apply Kd.R_alloc | apply Kd.R_drewN | apply Kd.R_drew)); exact HO284.out)) k_ hk⟩)); (case aO => exact (by (with_reducible repeat (first | apply Kd.R_alloc | apply Kd.R_drewN | apply Kd.R_drew)); exact Kd.R_mono HO293.out (fun _ hk => ⟨hk.1.2, hk.2⟩))); (case aS => exact (below_size (by repeat (first | (with_reducible first | exact HB.out | apply below_alloc | apply pw_below_drewN | apply below_drew1) | exact HB.out)))); (case aL => have := LMc12.out; omega); intro v295 w24 ho hb hg hat; rw [← Ny294.out] at ho; have n0_ := Aside0.mk (Kd.R_after (ok := (fun k_ => some k_ ≠ (.slice Ao20 t282.length co20 : Value).ownBlock)) (by (with_reducible repeat (first | apply Kd.R_alloc | apply Kd.R_drewN | apply Kd.R_drew)); exact Kd.R_mono HO281.out (fun _ hk => ⟨hk.1.2, hk.2⟩)) hg hat); have n1_ := Aside0.mk (Kd.R_after (ok := (fun k_ => some k_ ≠ (.slice Ao18 t279.length co18 : Value).ownBlock)) (by (with_reducible repeat (first | apply Kd.R_alloc | apply Kd.R_drewN | apply Kd.R_drew)); exact Kd.R_mono HO284.out (fun _ hk => ⟨hk.1.2, hk.2⟩)) hg hat); have n2_ := Aside0.mk (Kd.R_over' (by (with_reducible repeat (first | apply Kd.R_alloc | apply Kd.R_drewN | apply Kd.R_drew)); exact HO287.out) (Kd.R_typed (by (with_reducible repeat (first | apply Kd.R_alloc | apply Kd.R_drewN | apply Kd.R_drew)); exact HO293.out)) (by decide) hg); have n3_ := Aside0.mk (Kd.R_over' (by (with_reducible repeat (first | apply Kd.R_alloc | apply Kd.R_drewN | apply Kd.R_drew)); exact HO290.out) (Kd.R_typed (by (with_reducible repeat (first | apply Kd.R_alloc | apply Kd.R_drewN | apply Kd.R_drew)); exact HO293.out)) (by decide) hg); have n4_ := Aside0.mk (hb); have n5_ := Aside0.mk (ho); clear HO281; clear HO284; clear HO287; clear HO290; clear HB; clear HO293; have HO281 := n0_; have HO284 := n1_; have HO287 := n2_; have HO290 := n3_; have HB := n4_; have HO296 := n5_; clear n0_ n1_ n2_ n3_ n4_ n5_; clear ho hb hg hat) | ((with_reducible refine gate_builtin (b := .append) (xs := #[.tmp 32, .tmp 33]) rfl ?_); (try (refine gate_guard (by rfl) ?_; dsimp only)); at_builtin; refine Kd.R_append_rows (Kd.int .u64) (w0 := w) w.heap.size rfl (.tmp 32) (.tmp 33) 22 27 (.int .u64 0) 8 rfl Tryd.underlying22 info27 rfl (by decide) (by omega) v295 y294 t282 _ _ _ (fun k_ => some k_ ≠ (.slice Ao18 t279.length co18 : Value).ownBlock ∧ some k_ ≠ (.slice Ao20 t282.length co20 : Value).ownBlock) (fun _ => False) rfl rfl ?aO ?aR (fun _ _ h => h) (fun _ h => h.elim) ?aF ?aB ?aS ?aL ?_; (case aR => repeat (first | exact (Kd.R_reads' HO284.out).2.2 | (with_reducible refine Kd.C_alloc ?_ _) | (with_reducible refine Kd.C_drewN ?_ _) | (with_reducible refine Kd.C_drew ?_))); (case aB => exact (by repeat (first | (with_reducible first | exact HB.out | apply below_alloc | apply pw_below_drewN | apply below_drew1) | exact HB.out))); (case aF => exact (fun k_ hk => ⟨Kd.fresh' (Kd.R_lt (by (with_reducible repeat (first | apply Kd.R_alloc | apply Kd.R_drewN | apply Kd.R_drew)); exact HO281.out)) k_ hk, Kd.fresh' (Kd.R_lt (by (with_reducible repeat (first | apply Kd.R_alloc | apply Kd.R_drewN | apply Kd.R_drew)); exact HO284.out)) k_ hk⟩)); (case aO => exact (by (with_reducible repeat (first | apply Kd.R_alloc | apply Kd.R_drewN | apply Kd.R_drew)); exact HO296.out)); (case aS => exact (below_size (by repeat (first | (with_reducible first | exact HB.out | apply below_alloc | apply pw_below_drewN | apply below_drew1) | exact HB.out)))); (case aL => have := LMc13.out; omega); intro v298 w25 ho hb hg hat; rw [← Ny297.out] at ho; have n0_ := Aside0.mk (Kd.R_after (ok := (fun k_ => some k_ ≠ (.slice Ao20 t282.length co20 : Value).ownBlock)) (by (with_reducible repeat (first | apply Kd.R_alloc | apply Kd.R_drewN | apply Kd.R_drew)); exact HO281.out) hg hat); have n1_ := Aside0.mk (Kd.R_after (ok := (fun k_ => some k_ ≠ (.slice Ao18 t279.length co18 : Value).ownBlock)) (by (with_reducible repeat (first | apply Kd.R_alloc | apply Kd.R_drewN | apply Kd.R_drew)); exact HO284.out) hg hat); have n2_ := Aside0.mk (Kd.R_over' (by (with_reducible repeat (first | apply Kd.R_alloc | apply Kd.R_drewN | apply Kd.R_drew)); exact HO287.out) (Kd.R_typed (by (with_reducible repeat (first | apply Kd.R_alloc | apply Kd.R_drewN | apply Kd.R_drew)); exact HO296.out)) (by decide) hg); have n3_ := Aside0.mk (Kd.R_over' (by (with_reducible repeat (first | apply Kd.R_alloc | apply Kd.R_drewN | apply Kd.R_drew)); exact HO290.out) (Kd.R_typed (by (with_reducible repeat (first | apply Kd.R_alloc | apply Kd.R_drewN | apply Kd.R_drew)); exact HO296.out)) (by decide) hg); have n4_ := Aside0.mk (hb); have n5_ := Aside0.mk (ho); clear HO281; clear HO284; clear HO287; clear HO290; clear HB; clear HO296; have HO281 := n0_; have HO284 := n1_; have HO287 := n2_; have HO290 := n3_; have HB := n4_; have HO299 := n5_; clear n0_ n1_ n2_ n3_ n4_ n5_; clear ho hb hg hat; obtain ⟨Ao26, co26, eo26⟩ := Kd.R_slice HO299.out; subst eo26) | ((with_reducible refine gate_callee (f := 23) rfl ?_); refine goesL_ (some 35) rfl rfl Tryd.func23 (by kernel_rfl) rfl #[.slice Ao26 y297.length co26] rfl (by (try simp only [List.map_toArray, List.map_cons, List.map_nil]); first | done | rfl | (simp only [List.length_drop, List.length_take]; rfl)) ?_; (with_reducible refine (tile_Blocks.calls kj3 _ _ y297 t300 _ ?side1 ?side2 A14.out).mono ?_); (case side1 => repeat (first | exact (Kd.R_reads' HO299.out).2.2 | (with_reducible refine Kd.C_alloc ?_ _) | (with_reducible refine Kd.C_drewN ?_ _) | (with_reducible refine Kd.C_drew ?_))); (case side2 => exact (Kd.R_reads' HO299.out).2.1); rintro e w27 ⟨v301, rfl, ho0, hb⟩; refine ⟨_, rfl, ?_⟩; have n0_ := Aside0.mk (Kd.R_below (by (with_reducible repeat (first | apply Kd.R_alloc | apply Kd.R_drewN | apply Kd.R_drew)); exact HO281.out) hb); have n1_ := Aside0.mk (Kd.R_below (by (with_reducible repeat (first | apply Kd.R_alloc | apply Kd.R_drewN | apply Kd.R_drew)); exact HO284.out) hb); have n2_ := Aside0.mk (Kd.R_elder' (by (with_reducible repeat (first | apply Kd.R_alloc | apply Kd.R_drewN | apply Kd.R_drew)); exact HO287.out) (Kd.R_base ho0) hb); have n3_ := Aside0.mk (Kd.R_elder' (by (with_reducible repeat (first | apply Kd.R_alloc | apply Kd.R_drewN | apply Kd.R_drew)); exact HO290.out) (Kd.R_base ho0) hb); have n4_ := Aside0.mk (Kd.R_below (by (with_reducible repeat (first | apply Kd.R_alloc | apply Kd.R_drewN | apply Kd.R_drew)); exact HO299.out) hb); have n5_ := Aside0.mk (Kd.R_lower (Kd.R_new' (Kd.R_new' ho0 (Kd.R_lt (by (with_reducible repeat (first | apply Kd.R_alloc | apply Kd.R_drewN | apply Kd.R_drew)); exact HO287.out))) (Kd.R_lt (by (with_reducible repeat (first | apply Kd.R_alloc | apply Kd.R_drewN | apply Kd.R_drew)); exact HO290.out))) (below_size (by repeat (first | (with_reducible first | exact HB.out | apply below_alloc | apply pw_below_drewN | apply below_drew1) | exact HB.out)))); have n6_ := Aside0.mk (below_step (by repeat (first | (with_reducible first | exact HB.out | apply below_alloc | apply pw_below_drewN | apply below_drew1) | exact HB.out)) hb); clear HO281; clear HO284; clear HO287; clear HO290; clear HO299; clear HB; have HO281 := n0_; have HO284 := n1_; have HO287 := n2_; have HO290 := n3_; have HO299 := n4_; have HO302 := n5_; have HB := n6_; clear n0_ n1_ n2_ n3_ n4_ n5_ n6_; (try clear hb); (try clear hb2); (try clear hk); (try clear hi); (try clear ho0)))
            (try simp only [Act.put, List.setIfInBounds_toArray, List.set_cons_zero, List.set_cons_succ])
            go_cut [52] (fun v52 wc => ∃ (kq : Nat) (x52_14 : Bool), v52 = .bool x52_14 ∧ Aside0 (lockfastlaw11_TileParts.j1 kq t278 t279 t285 t288 t300 x52_14 = some r) ∧ Aside0 (kq ≤ kj3) ∧ Aside0 (Kd.R (Kd.int .u64) 27 wc w.heap.size (fun _ => True) (.slice Ao18 t279.length co18) t279) ∧ Aside0 (Kd.R k42 42 wc w.heap.size (fun k_ => some k_ ≠ (v289 : Value).ownBlock ∧ some k_ ≠ (v301 : Value).ownBlock) v286 t285) ∧ Aside0 (Kd.R k42 42 wc w.heap.size (fun k_ => some k_ ≠ (v286 : Value).ownBlock ∧ some k_ ≠ (v301 : Value).ownBlock) v289 t288) ∧ Aside0 (Kd.R k42 42 wc w.heap.size (fun k_ => some k_ ≠ (v286 : Value).ownBlock ∧ some k_ ≠ (v289 : Value).ownBlock) v301 t300) ∧ Aside0 (Below w.heap.size w wc))
            case first =>
              have H := HC15.out
              clear HC15
              by_cases c28 : (t300.length : Int) = (wrap64 ((t285.length : Int) + (t288.length : Int)))
              · rw [if_pos c28] at H
                have c28b0 : ((t300.length : Int) == (wrap64 ((t285.length : Int) + (t288.length : Int)))) = true := beq_iff_eq.mpr c28
                have c28b1 : ((t300.length : Int) != (wrap64 ((t285.length : Int) + (t288.length : Int)))) = false := bne_eq_false_iff_eq.mpr c28
                clear c28
                (first | rw [c28b0] | (simp only [i64_w, i32_w]; rw [c28b0]) | skip)
                obtain ⟨y303, hy303⟩ : ∃ y_ : List Int, y_ = (([] : List Int)) := ⟨_, rfl⟩
                replace H : (if y303.length + t279.length < 17592186044416 then ((some (y303 ++ t279 : List Int)).bind fun y306 => (if y306.length + t282.length < 17592186044416 then ((tile_Right.f kj3 (y306 ++ t282)).bind fun t312 => (lockfastlaw11_TileParts.j1 kj3 t278 t279 t285 t288 t300 (!t312))) else (none))) else (none)) = some r := by first | (rw [hy303]; with_reducible exact H) | (have H2_ := (Option.bind_some _ _).symm.trans H; rw [hy303]; with_reducible exact H2_) | (have H2_ := (Option.bind_some _ _).symm.trans H; with_reducible exact H2_) | with_reducible exact H | (rw [hy303]; exact H) | exact H
                have Ny303 := Aside0.mk hy303
                clear hy303
                by_cases c29 : y303.length + t279.length < 17592186044416
                · rw [if_pos c29] at H
                  have LMc29 := Aside0.mk c29
                  clear c29
                  obtain ⟨y306, hy306⟩ : ∃ y_ : List Int, y_ = (y303 ++ t279) := ⟨_, rfl⟩
                  replace H : (if y306.length + t282.length < 17592186044416 then ((tile_Right.f kj3 (y306 ++ t282)).bind fun t312 => (lockfastlaw11_TileParts.j1 kj3 t278 t279 t285 t288 t300 (!t312))) else (none)) = some r := by first | (rw [hy306]; with_reducible exact H) | (have H2_ := (Option.bind_some _ _).symm.trans H; rw [hy306]; with_reducible exact H2_) | (have H2_ := (Option.bind_some _ _).symm.trans H; with_reducible exact H2_) | with_reducible exact H | (rw [hy306]; exact H) | exact H
                  have Ny306 := Aside0.mk hy306
                  clear hy306
                  by_cases c30 : y306.length + t282.length < 17592186044416
                  · rw [if_pos c30] at H
                    have LMc30 := Aside0.mk c30
                    clear c30
                    obtain ⟨y309, hy309⟩ : ∃ y_ : List Int, y_ = (y306 ++ t282) := ⟨_, rfl⟩
                    replace H : ((tile_Right.f kj3 y309).bind fun t312 => (lockfastlaw11_TileParts.j1 kj3 t278 t279 t285 t288 t300 (!t312))) = some r := by first | (rw [hy309]; with_reducible exact H) | (have H2_ := (Option.bind_some _ _).symm.trans H; rw [hy309]; with_reducible exact H2_) | (have H2_ := (Option.bind_some _ _).symm.trans H; with_reducible exact H2_) | with_reducible exact H | (rw [hy309]; exact H) | exact H
                    have Ny309 := Aside0.mk hy309
                    clear hy309
                    replace H := Option.bind_eq_some_iff.mp H
                    obtain ⟨t312, A310, H⟩ := H
                    replace H : (lockfastlaw11_TileParts.j1 kj3 t278 t279 t285 t288 t300 (!t312)) = some r := H
                    have A31 := Aside0.mk A310
                    clear A310
                    have H' := Aside0.mk H
                    clear H
                    obtain ⟨Ao32, co32, eo32⟩ := Kd.R_slice HO302.out
                    subst eo32
                    obtain ⟨Ao33, co33, eo33⟩ := Kd.R_slice HO287.out
                    subst eo33
                    obtain ⟨Ao34, co34, eo34⟩ := Kd.R_slice HO290.out
                    subst eo34
                    go_wp2_with (first | ((with_reducible refine gate_dst (N := 45) rfl ?_); (try (refine gate_guard (by rfl) ?_; dsimp only)); refine Kd.R_lit (Kd.int .u64) _ 27 ?hg (N := 45) ?hd (xs := ([] : List Int)) (inner := []) (ok := fun _ => True) (okp := fun _ => True) ?hr ?hp (fun _ hk => hk) trivial (Below.refl _ _) (Nat.le_refl _) (by simp) ?_; (case hd => rfl); (case hg => rfl); (case hr => first | (go_simp; done) | (go_simp; rfl)); (case hp => exact (Reps.none _ _)); intro v304 w35 ho36 hb hg_ hnew_; clear hg_ hnew_; (first | rw [← Ny303.out] at ho36 | (simp only [Int.reduceToNat] at ho36; rw [← Ny303.out] at ho36)); have n0_ := Aside0.mk (Kd.R_elder' (by (with_reducible repeat (first | apply Kd.R_alloc | apply Kd.R_drewN | apply Kd.R_drew)); exact HO281.out) (Kd.R_base ho36) hb); have n1_ := Aside0.mk (Kd.R_elder' (by (with_reducible repeat (first | apply Kd.R_alloc | apply Kd.R_drewN | apply Kd.R_drew)); exact HO284.out) (Kd.R_base ho36) hb); have n2_ := Aside0.mk (Kd.R_below (by (with_reducible repeat (first | apply Kd.R_alloc | apply Kd.R_drewN | apply Kd.R_drew)); exact HO287.out) hb); have n3_ := Aside0.mk (Kd.R_below (by (with_reducible repeat (first | apply Kd.R_alloc | apply Kd.R_drewN | apply Kd.R_drew)); exact HO290.out) hb); have n4_ := Aside0.mk (Kd.R_elder' (by (with_reducible repeat (first | apply Kd.R_alloc | apply Kd.R_drewN | apply Kd.R_drew)); exact HO299.out) (Kd.R_base ho36) hb); have n5_ := Aside0.mk (Kd.R_below (by (with_reducible repeat (first | apply Kd.R_alloc | apply Kd.R_drewN | apply Kd.R_drew)); exact HO302.out) hb); have n6_ := Aside0.mk (Kd.R_lower (Kd.R_new' (Kd.R_new' (Kd.R_new' ho36 (Kd.R_lt (by (with_reducible repeat (first | apply Kd.R_alloc | apply Kd.R_drewN | apply Kd.R_drew)); exact HO281.out))) (Kd.R_lt (by (with_reducible repeat (first | apply Kd.R_alloc | apply Kd.R_drewN | apply Kd.R_drew)); exact HO284.out))) (Kd.R_lt (by (with_reducible repeat (first | apply Kd.R_alloc | apply Kd.R_drewN | apply Kd.R_drew)); exact HO299.out))) (below_size (by repeat (first | (with_reducible first | exact HB.out | apply below_alloc | apply pw_below_drewN | apply below_drew1) | exact HB.out)))); have n7_ := Aside0.mk (below_step (by repeat (first | (with_reducible first | exact HB.out | apply below_alloc | apply pw_below_drewN | apply below_drew1) | exact HB.out)) hb); clear HO281; clear HO284; clear HO287; clear HO290; clear HO299; clear HO302; clear HB; have HO281 := n0_; have HO284 := n1_; have HO287 := n2_; have HO290 := n3_; have HO299 := n4_; have HO302 := n5_; have HO305 := n6_; have HB := n7_; clear n0_ n1_ n2_ n3_ n4_ n5_ n6_ n7_; clear hb ho36) | ((with_reducible refine gate_builtin (b := .append) (xs := #[.tmp 45, .tmp 46]) rfl ?_); (try (refine gate_guard (by rfl) ?_; dsimp only)); at_builtin; refine Kd.R_append_rows (Kd.int .u64) (w0 := w) w.heap.size rfl (.tmp 45) (.tmp 46) 22 27 (.int .u64 0) 8 rfl Tryd.underlying22 info27 rfl (by decide) (by omega) v304 y303 t279 _ _ _ (fun k_ => some k_ ≠ (.slice Ao18 t279.length co18 : Value).ownBlock ∧ some k_ ≠ (.slice Ao20 t282.length co20 : Value).ownBlock ∧ some k_ ≠ (.slice Ao26 y297.length co26 : Value).ownBlock) (fun _ => False) rfl rfl ?aO ?aR (fun _ _ h => h) (fun _ h => h.elim) ?aF ?aB ?aS ?aL ?_; (case aR => repeat (first | exact (Kd.R_reads' HO281.out).2.2 | (with_reducible refine Kd.C_alloc ?_ _) | (with_reducible refine Kd.C_drewN ?_ _) | (with_reducible refine Kd.C_drew ?_))); (case aB => exact (by repeat (first | (with_reducible first | exact HB.out | apply below_alloc | apply pw_below_drewN | apply below_drew1) | exact HB.out))); (case aF => exact (fun k_ hk => ⟨Kd.fresh' (Kd.R_lt (by (with_reducible repeat (first | apply Kd.R_alloc | apply Kd.R_drewN | apply Kd.R_drew)); exact HO281.out)) k_ hk, Kd.fresh' (Kd.R_lt (by (with_reducible repeat (first | apply Kd.R_alloc | apply Kd.R_drewN | apply Kd.R_drew)); exact HO284.out)) k_ hk, Kd.fresh' (Kd.R_lt (by (with_reducible repeat (first | apply Kd.R_alloc | apply Kd.R_drewN | apply Kd.R_drew)); exact HO299.out)) k_ hk⟩)); (case aO => exact (by (with_reducible repeat (first | apply Kd.R_alloc | apply Kd.R_drewN | apply Kd.R_drew)); exact Kd.R_mono HO305.out (fun _ hk => ⟨hk.1.1.2, ⟨hk.1.2, hk.2⟩⟩))); (case aS => exact (below_size (by repeat (first | (with_reducible first | exact HB.out | apply below_alloc | apply pw_below_drewN | apply below_drew1) | exact HB.out)))); (case aL => have := LMc29.out; omega); intro v307 w37 ho hb hg hat; rw [← Ny306.out] at ho; have n0_ := Aside0.mk (Kd.R_after (ok := (fun k_ => some k_ ≠ (.slice Ao20 t282.length co20 : Value).ownBlock ∧ some k_ ≠ (.slice Ao26 y297.length co26 : Value).ownBlock)) (by (with_reducible repeat (first | apply Kd.R_alloc | apply Kd.R_drewN | apply Kd.R_drew)); exact HO281.out) hg hat); have n1_ := Aside0.mk (Kd.R_after (ok := (fun k_ => some k_ ≠ (.slice Ao18 t279.length co18 : Value).ownBlock ∧ some k_ ≠ (.slice Ao26 y297.length co26 : Value).ownBlock)) (by (with_reducible repeat (first | apply Kd.R_alloc | apply Kd.R_drewN | apply Kd.R_drew)); exact HO284.out) hg hat); have n2_ := Aside0.mk (Kd.R_over' (by (with_reducible repeat (first | apply Kd.R_alloc | apply Kd.R_drewN | apply Kd.R_drew)); exact HO287.out) (Kd.R_typed (by (with_reducible repeat (first | apply Kd.R_alloc | apply Kd.R_drewN | apply Kd.R_drew)); exact HO305.out)) (by decide) hg); have n3_ := Aside0.mk (Kd.R_over' (by (with_reducible repeat (first | apply Kd.R_alloc | apply Kd.R_drewN | apply Kd.R_drew)); exact HO290.out) (Kd.R_typed (by (with_reducible repeat (first | apply Kd.R_alloc | apply Kd.R_drewN | apply Kd.R_drew)); exact HO305.out)) (by decide) hg); have n4_ := Aside0.mk (Kd.R_after (ok := (fun k_ => some k_ ≠ (.slice Ao18 t279.length co18 : Value).ownBlock ∧ some k_ ≠ (.slice Ao20 t282.length co20 : Value).ownBlock)) (by (with_reducible repeat (first | apply Kd.R_alloc | apply Kd.R_drewN | apply Kd.R_drew)); exact HO299.out) hg hat); have n5_ := Aside0.mk (Kd.R_over' (by (with_reducible repeat (first | apply Kd.R_alloc | apply Kd.R_drewN | apply Kd.R_drew)); exact HO302.out) (Kd.R_typed (by (with_reducible repeat (first | apply Kd.R_alloc | apply Kd.R_drewN | apply Kd.R_drew)); exact HO305.out)) (by decide) hg); have n6_ := Aside0.mk (hb); have n7_ := Aside0.mk (ho); clear HO281; clear HO284; clear HO287; clear HO290; clear HO299; clear HO302; clear HB; clear HO305; have HO281 := n0_; have HO284 := n1_; have HO287 := n2_; have HO290 := n3_; have HO299 := n4_; have HO302 := n5_; have HB := n6_; have HO308 := n7_; clear n0_ n1_ n2_ n3_ n4_ n5_ n6_ n7_; clear ho hb hg hat) | ((with_reducible refine gate_builtin (b := .append) (xs := #[.tmp 47, .tmp 48]) rfl ?_); (try (refine gate_guard (by rfl) ?_; dsimp only)); at_builtin; refine Kd.R_append_rows (Kd.int .u64) (w0 := w) w.heap.size rfl (.tmp 47) (.tmp 48) 22 27 (.int .u64 0) 8 rfl Tryd.underlying22 info27 rfl (by decide) (by omega) v307 y306 t282 _ _ _ (fun k_ => some k_ ≠ (.slice Ao18 t279.length co18 : Value).ownBlock ∧ some k_ ≠ (.slice Ao20 t282.length co20 : Value).ownBlock ∧ some k_ ≠ (.slice Ao26 y297.length co26 : Value).ownBlock) (fun _ => False) rfl rfl ?aO ?aR (fun _ _ h => h) (fun _ h => h.elim) ?aF ?aB ?aS ?aL ?_; (case aR => repeat (first | exact (Kd.R_reads' HO284.out).2.2 | (with_reducible refine Kd.C_alloc ?_ _) | (with_reducible refine Kd.C_drewN ?_ _) | (with_reducible refine Kd.C_drew ?_))); (case aB => exact (by repeat (first | (with_reducible first | exact HB.out | apply below_alloc | apply pw_below_drewN | apply below_drew1) | exact HB.out))); (case aF => exact (fun k_ hk => ⟨Kd.fresh' (Kd.R_lt (by (with_reducible repeat (first | apply Kd.R_alloc | apply Kd.R_drewN | apply Kd.R_drew)); exact HO281.out)) k_ hk, Kd.fresh' (Kd.R_lt (by (with_reducible repeat (first | apply Kd.R_alloc | apply Kd.R_drewN | apply Kd.R_drew)); exact HO284.out)) k_ hk, Kd.fresh' (Kd.R_lt (by (with_reducible repeat (first | apply Kd.R_alloc | apply Kd.R_drewN | apply Kd.R_drew)); exact HO299.out)) k_ hk⟩)); (case aO => exact (by (with_reducible repeat (first | apply Kd.R_alloc | apply Kd.R_drewN | apply Kd.R_drew)); exact HO308.out)); (case aS => exact (below_size (by repeat (first | (with_reducible first | exact HB.out | apply below_alloc | apply pw_below_drewN | apply below_drew1) | exact HB.out)))); (case aL => have := LMc30.out; omega); intro v310 w38 ho hb hg hat; rw [← Ny309.out] at ho; have n0_ := Aside0.mk (Kd.R_after (ok := (fun k_ => some k_ ≠ (.slice Ao20 t282.length co20 : Value).ownBlock ∧ some k_ ≠ (.slice Ao26 y297.length co26 : Value).ownBlock)) (by (with_reducible repeat (first | apply Kd.R_alloc | apply Kd.R_drewN | apply Kd.R_drew)); exact HO281.out) hg hat); have n1_ := Aside0.mk (Kd.R_after (ok := (fun k_ => some k_ ≠ (.slice Ao18 t279.length co18 : Value).ownBlock ∧ some k_ ≠ (.slice Ao26 y297.length co26 : Value).ownBlock)) (by (with_reducible repeat (first | apply Kd.R_alloc | apply Kd.R_drewN | apply Kd.R_drew)); exact HO284.out) hg hat); have n2_ := Aside0.mk (Kd.R_over' (by (with_reducible repeat (first | apply Kd.R_alloc | apply Kd.R_drewN | apply Kd.R_drew)); exact HO287.out) (Kd.R_typed (by (with_reducible repeat (first | apply Kd.R_alloc | apply Kd.R_drewN | apply Kd.R_drew)); exact HO308.out)) (by decide) hg); have n3_ := Aside0.mk (Kd.R_over' (by (with_reducible repeat (first | apply Kd.R_alloc | apply Kd.R_drewN | apply Kd.R_drew)); exact HO290.out) (Kd.R_typed (by (with_reducible repeat (first | apply Kd.R_alloc | apply Kd.R_drewN | apply Kd.R_drew)); exact HO308.out)) (by decide) hg); have n4_ := Aside0.mk (Kd.R_after (ok := (fun k_ => some k_ ≠ (.slice Ao18 t279.length co18 : Value).ownBlock ∧ some k_ ≠ (.slice Ao20 t282.length co20 : Value).ownBlock)) (by (with_reducible repeat (first | apply Kd.R_alloc | apply Kd.R_drewN | apply Kd.R_drew)); exact HO299.out) hg hat); have n5_ := Aside0.mk (Kd.R_over' (by (with_reducible repeat (first | apply Kd.R_alloc | apply Kd.R_drewN | apply Kd.R_drew)); exact HO302.out) (Kd.R_typed (by (with_reducible repeat (first | apply Kd.R_alloc | apply Kd.R_drewN | apply Kd.R_drew)); exact HO308.out)) (by decide) hg); have n6_ := Aside0.mk (hb); have n7_ := Aside0.mk (ho); clear HO281; clear HO284; clear HO287; clear HO290; clear HO299; clear HO302; clear HB; clear HO308; have HO281 := n0_; have HO284 := n1_; have HO287 := n2_; have HO290 := n3_; have HO299 := n4_; have HO302 := n5_; have HB := n6_; have HO311 := n7_; clear n0_ n1_ n2_ n3_ n4_ n5_ n6_ n7_; clear ho hb hg hat; obtain ⟨Ao39, co39, eo39⟩ := Kd.R_slice HO311.out; subst eo39) | (go_at_call 18; (with_reducible refine (tile_Right.calls kj3 _ _ y309 t312 _ ?side1 ?side2 A31.out).mono ?_); (case side1 => repeat (first | exact (Kd.R_reads' HO311.out).2.2 | (with_reducible refine Kd.C_alloc ?_ _) | (with_reducible refine Kd.C_drewN ?_ _) | (with_reducible refine Kd.C_drew ?_))); (case side2 => exact (Kd.R_reads' HO311.out).2.1); rintro e w40 ⟨rfl, hb⟩; have n0_ := Aside0.mk (Kd.R_below (by (with_reducible repeat (first | apply Kd.R_alloc | apply Kd.R_drewN | apply Kd.R_drew)); exact HO281.out) hb); have n1_ := Aside0.mk (Kd.R_below (by (with_reducible repeat (first | apply Kd.R_alloc | apply Kd.R_drewN | apply Kd.R_drew)); exact HO284.out) hb); have n2_ := Aside0.mk (Kd.R_below (by (with_reducible repeat (first | apply Kd.R_alloc | apply Kd.R_drewN | apply Kd.R_drew)); exact HO287.out) hb); have n3_ := Aside0.mk (Kd.R_below (by (with_reducible repeat (first | apply Kd.R_alloc | apply Kd.R_drewN | apply Kd.R_drew)); exact HO290.out) hb); have n4_ := Aside0.mk (Kd.R_below (by (with_reducible repeat (first | apply Kd.R_alloc | apply Kd.R_drewN | apply Kd.R_drew)); exact HO299.out) hb); have n5_ := Aside0.mk (Kd.R_below (by (with_reducible repeat (first | apply Kd.R_alloc | apply Kd.R_drewN | apply Kd.R_drew)); exact HO302.out) hb); have n6_ := Aside0.mk (Kd.R_below (by (with_reducible repeat (first | apply Kd.R_alloc | apply Kd.R_drewN | apply Kd.R_drew)); exact HO311.out) hb); have n7_ := Aside0.mk (below_step (by repeat (first | (with_reducible first | exact HB.out | apply below_alloc | apply pw_below_drewN | apply below_drew1) | exact HB.out)) hb); clear HO281; clear HO284; clear HO287; clear HO290; clear HO299; clear HO302; clear HO311; clear HB; have HO281 := n0_; have HO284 := n1_; have HO287 := n2_; have HO290 := n3_; have HO299 := n4_; have HO302 := n5_; have HO311 := n6_; have HB := n7_; clear n0_ n1_ n2_ n3_ n4_ n5_ n6_ n7_; (try clear hb); (try clear hb2); (try clear hk); (try clear hi)))
                    go_meet
                    case rel => exact ⟨_, (!t312), (by first | rfl | (simp; done) | (simp [*]; done)), H', ⟨by have := HJ3.out; first | omega | exact Nat.le_refl _⟩, ⟨by (with_reducible repeat (first | apply Kd.R_alloc | apply Kd.R_drewN | apply Kd.R_drew)); exact Kd.R_mono HO281.out (fun _ hk => trivial)⟩, ⟨by (with_reducible repeat (first | apply Kd.R_alloc | apply Kd.R_drewN | apply Kd.R_drew)); exact Kd.R_mono HO287.out (fun _ hk => ⟨hk.1.2, hk.2⟩)⟩, ⟨by (with_reducible repeat (first | apply Kd.R_alloc | apply Kd.R_drewN | apply Kd.R_drew)); exact Kd.R_mono HO290.out (fun _ hk => ⟨hk.1.2, hk.2⟩)⟩, ⟨by (with_reducible repeat (first | apply Kd.R_alloc | apply Kd.R_drewN | apply Kd.R_drew)); exact Kd.R_mono HO302.out (fun _ hk => ⟨hk.1.2, hk.2⟩)⟩, ⟨by repeat (first | (with_reducible first | exact HB.out | apply below_alloc | apply pw_below_drewN | apply below_drew1) | exact HB.out)⟩⟩
                  · rw [if_neg c30] at H
                    exact absurd H (by simp)
                · rw [if_neg c29] at H
                  exact absurd H (by simp)
              · rw [if_neg c28] at H
                have c28b0 : ((t300.length : Int) == (wrap64 ((t285.length : Int) + (t288.length : Int)))) = false := beq_eq_false_iff_ne.mpr c28
                have c28b1 : ((t300.length : Int) != (wrap64 ((t285.length : Int) + (t288.length : Int)))) = true := bne_iff_ne.mpr c28
                (first | rw [c28b0] | (simp only [i64_w, i32_w]; rw [c28b0]) | skip)
                have H' := Aside0.mk H
                clear H
                obtain ⟨Ao41, co41, eo41⟩ := Kd.R_slice HO302.out
                subst eo41
                obtain ⟨Ao42, co42, eo42⟩ := Kd.R_slice HO287.out
                subst eo42
                obtain ⟨Ao43, co43, eo43⟩ := Kd.R_slice HO290.out
                subst eo43
                go_wp2
                go_meet
                case rel => exact ⟨_, (true), (by first | rfl | (simp; done) | (simp [*]; done)), H', ⟨by have := HJ3.out; first | omega | exact Nat.le_refl _⟩, ⟨by (with_reducible repeat (first | apply Kd.R_alloc | apply Kd.R_drewN | apply Kd.R_drew)); exact Kd.R_mono HO281.out (fun _ hk => trivial)⟩, ⟨by (with_reducible repeat (first | apply Kd.R_alloc | apply Kd.R_drewN | apply Kd.R_drew)); exact Kd.R_mono HO287.out (fun _ hk => ⟨hk.1.2, hk.2⟩)⟩, ⟨by (with_reducible repeat (first | apply Kd.R_alloc | apply Kd.R_drewN | apply Kd.R_drew)); exact Kd.R_mono HO290.out (fun _ hk => ⟨hk.1.2, hk.2⟩)⟩, ⟨by (with_reducible repeat (first | apply Kd.R_alloc | apply Kd.R_drewN | apply Kd.R_drew)); exact Kd.R_mono HO302.out (fun _ hk => ⟨hk.1.2, hk.2⟩)⟩, ⟨by repeat (first | (with_reducible first | exact HB.out | apply below_alloc | apply pw_below_drewN | apply below_drew1) | exact HB.out)⟩⟩
            case rest =>
              clear HC15
              try clear c1
              try clear c2
              try clear p2
              try clear c3
              try clear c5
              try clear c6
              try clear c6b0
              try clear c6b1
              try clear p6
              try clear c7
              try clear c12
              try clear c13
              try clear c15
              try clear c20
              try clear c23
              try clear c28
              try clear c28b0
              try clear c28b1
              try clear c29
              try clear c30
              try clear p2
              obtain ⟨kq, x52_14, rfl, HA, HJ14, HO_6, HO_8, HO_9, HO_10, HB⟩ := hcut
              cases kq with
              | zero => exact absurd HA.out (by simp [lockfastlaw11_TileParts.j1])
              | succ kj14 =>
                have H := HA.out
                clear HA
                simp only [lockfastlaw11_TileParts.j1] at H
                by_cases c44 : x52_14 = true
                · subst c44
                  have H1 : (some false) = some r := by rw [if_pos rfl] at H; exact H
                  clear H
                  have H := H1
                  clear H1
                  obtain rfl := Option.some.inj H
                  go_wp2
                  go_ret
                  exact ⟨by first | rfl | (simp [errW_none, errW_some] <;> rfl) | (simp [*, errW_none, errW_some] <;> rfl), by repeat (first | (with_reducible first | exact HB.out | apply below_alloc | apply pw_below_drewN | apply below_drew1) | exact HB.out)⟩
                · replace c44 := Bool.eq_false_iff.mpr c44
                  subst c44
                  have H1 : (lockfastlaw11_TileParts.l0 kj14 t278 t279 t285 t288 t300 0) = some r := by rw [if_neg (show ¬ (false = true) by decide)] at H; exact H
                  clear H
                  have H := H1
                  clear H1
                  have H' := Aside0.mk H
                  clear H
                  go_wp2
                  go_loopg [11] kj14 (fun kq v11 w' => ∃ (x9_3 : List (S42)) (x11_3 : Int), v11 = .int .i64 x11_3 ∧ Aside0 (lockfastlaw11_TileParts.l0 kq t278 t279 t285 x9_3 t300 x11_3 = some r) ∧ Aside0 (kq ≤ kj14) ∧ Aside0 (Kd.R (Kd.int .u64) 27 w' w.heap.size (fun _ => True) (.slice Ao18 t279.length co18) t279) ∧ Aside0 (Kd.R k42 42 w' w.heap.size (fun k_ => some k_ ≠ (v289 : Value).ownBlock ∧ some k_ ≠ (v301 : Value).ownBlock) v286 t285) ∧ Aside0 (Kd.R k42 42 w' w.heap.size (fun k_ => some k_ ≠ (v286 : Value).ownBlock ∧ some k_ ≠ (v301 : Value).ownBlock) v289 x9_3) ∧ Aside0 (Kd.R k42 42 w' w.heap.size (fun k_ => some k_ ≠ (v286 : Value).ownBlock ∧ some k_ ≠ (v289 : Value).ownBlock) v301 t300) ∧ Aside0 (Below w.heap.size w w'))
                  case atStart => exact ⟨(t288), (0), (by first | rfl | (simp; done) | (simp [*]; done)), H', ⟨Nat.le_refl _⟩, ⟨by (with_reducible repeat (first | apply Kd.R_alloc | apply Kd.R_drewN | apply Kd.R_drew)); exact HO_6.out⟩, ⟨by (with_reducible repeat (first | apply Kd.R_alloc | apply Kd.R_drewN | apply Kd.R_drew)); exact HO_8.out⟩, ⟨by (with_reducible repeat (first | apply Kd.R_alloc | apply Kd.R_drewN | apply Kd.R_drew)); exact HO_9.out⟩, ⟨by (with_reducible repeat (first | apply Kd.R_alloc | apply Kd.R_drewN | apply Kd.R_drew)); exact HO_10.out⟩, ⟨by repeat (first | (with_reducible first | exact HB.out | apply below_alloc | apply pw_below_drewN | apply below_drew1) | exact HB.out)⟩⟩
                  case round =>
                    clear H'
                    try clear c1
                    try clear c2
                    try clear p2
                    try clear c3
                    try clear c4
                    try clear c5
                    try clear c6
                    try clear c6b0
                    try clear c6b1
                    try clear p6
                    try clear c7
                    try clear c12
                    try clear c13
                    try clear c15
                    try clear c20
                    try clear c23
                    try clear c28
                    try clear c28b0
                    try clear c28b1
                    try clear c29
                    try clear c30
                    try clear c44
                    try clear p2
                    try clear p6
                    obtain ⟨x9_3, x11_3, rfl, HA, HK3, HO_6, HO_8, HO_9, HO_10, HB⟩ := hrel
                    cases gk with
                    | zero => exact absurd HA.out (by simp [lockfastlaw11_TileParts.l0])
                    | succ k3 =>
                      have H := HA.out
                      clear HA
                      simp only [lockfastlaw11_TileParts.l0] at H
                      by_cases c45 : x11_3 < (x9_3.length : Int)
                      · rw [if_pos c45] at H
                        have c45b0 : decide (x11_3 < (x9_3.length : Int)) = true := decide_eq_true c45
                        clear c45
                        by_cases c46 : 0 ≤ x11_3
                        · rw [if_pos c46] at H
                          have c46b0 : decide (0 ≤ x11_3) = true := decide_eq_true c46
                          clear c46
                          obtain ⟨y314, hy314⟩ : ∃ y_ : List (S42), y_ = (x9_3.set (x11_3 : Int).toNat (⟨wrap64 (((rd_T42 x9_3 x11_3).f0) + (t279.length : Int)), (rd_T42 x9_3 x11_3).f1, (rd_T42 x9_3 x11_3).f2⟩ : S42)) := ⟨_, rfl⟩
                          replace H : (lockfastlaw11_TileParts.l0 k3 t278 t279 t285 y314 t300 (wrap64 (x11_3 + 1))) = some r := by first | (rw [hy314]; with_reducible exact H) | (have H2_ := (Option.bind_some _ _).symm.trans H; rw [hy314]; with_reducible exact H2_) | (have H2_ := (Option.bind_some _ _).symm.trans H; with_reducible exact H2_) | with_reducible exact H | (rw [hy314]; exact H) | exact H
                          have Ny314 := Aside0.mk hy314
                          clear hy314
                          have H' := Aside0.mk H
                          clear H
                          obtain ⟨Ao48, co48, eo48⟩ := Kd.R_slice HO_9.out
                          subst eo48
                          have p313 : 0 ≤ (x11_3 : Int) := of_decide_eq_true (by first | (with_reducible assumption) | assumption)
                          have q313 : x11_3 < (x9_3.length : Int) := of_decide_eq_true (by first | (with_reducible assumption) | assumption)
                          obtain ⟨ad313, e313, hx313_0, hx313_1, hx313_2⟩ := at_T42 (Kd.R_reads' HO_9.out).2.2 x11_3 p313 q313
                          cases e313
                          replace p313 := eq_true p313
                          replace q313 := eq_true q313
                          have p47 : 0 ≤ (x11_3 : Int) := of_decide_eq_true (by first | (with_reducible assumption) | assumption)
                          have q47 : (x11_3 : Int) < ((x9_3.length : Int) : Int) := of_decide_eq_true (by first | (with_reducible assumption) | assumption)
                          obtain ⟨go47, co47, eo47, gb47, gl47, cl47, HG47⟩ := Kd.R_form HO_9.out (by omega)
                          (first | cases eo47 | (injection eo47 with ea_ en_ ec_; (first | subst ea_ | (injection ea_ with ea_; subst ea_)); subst ec_; clear en_))
                          have GB47 := Aside0.mk gb47
                          have GG47 := Aside0.mk HG47
                          clear gb47 gl47 HG47
                          (first | simp only [add_plain] at hx313_0 | skip)
                          (first | simp only [add_plain] at hx313_1 | skip)
                          (first | simp only [add_plain] at hx313_2 | skip)
                          obtain ⟨ce47, hcl47, hM47, hcc47, hfr47⟩ := Kd.R_elem HO_9.out z42 (x11_3 : Int) p47 q47
                          obtain rfl := k42_openM hM47
                          have hx47_0 : wr.cell? ⟨go47, (x11_3 : Int).toNat * 3, none⟩ = some (.int .i64 ((rd_T42 x9_3 x11_3).f0)) := hcc47 0 _ rfl
                          have hx47_1 : wr.cell? ⟨go47, (x11_3 : Int).toNat * 3 + 1, none⟩ = some (.int .i64 ((rd_T42 x9_3 x11_3).f1)) := hcc47 1 _ rfl
                          have hx47_2 : wr.cell? ⟨go47, (x11_3 : Int).toNat * 3 + 2, none⟩ = some (.int .i64 ((rd_T42 x9_3 x11_3).f2)) := hcc47 2 _ rfl
                          have hf47_0 : wr.frozen? ⟨go47, (x11_3 : Int).toNat * 3, none⟩ = false := hfr47 0
                          have hf47_1 : wr.frozen? ⟨go47, (x11_3 : Int).toNat * 3 + 1, none⟩ = false := hfr47 1
                          have hf47_2 : wr.frozen? ⟨go47, (x11_3 : Int).toNat * 3 + 2, none⟩ = false := hfr47 2
                          clear hcl47 hcc47 hfr47 hM47
                          replace p47 := eq_true p47
                          replace q47 := eq_true q47
                          have HX49 := Aside0.mk (show Kd.R k42 42 wr w.heap.size (fun k_ => some k_ ≠ (v286 : Value).ownBlock ∧ some k_ ≠ (v301 : Value).ownBlock) (.slice (some ⟨go47, 0, none⟩) x9_3.length co48) x9_3 from (by (with_reducible repeat (first | apply Kd.R_alloc | apply Kd.R_drewN | apply Kd.R_drew)); exact HO_9.out))
                          obtain ⟨ce49, hcl49, hM49, hcc49, hfr49⟩ := Kd.R_elem HX49.out z42 (x11_3 : Int) (of_decide_eq_true (by first | (with_reducible assumption) | assumption)) (by have h_ : (x11_3 : Int) < ((x9_3.length : Int) : Int) := of_decide_eq_true (by first | (with_reducible assumption) | assumption); first | exact h_ | (have e_ := (Kd.R_reads' HO_9.out).1; omega) | simpa using h_)
                          obtain rfl := k42_openM hM49
                          have HP49 := Kd.R_seg HX49.out (x11_3 : Int) (of_decide_eq_true (by first | (with_reducible assumption) | assumption)) (by have h_ : (x11_3 : Int) < ((x9_3.length : Int) : Int) := of_decide_eq_true (by first | (with_reducible assumption) | assumption); first | exact h_ | (have e_ := (Kd.R_reads' HO_9.out).1; omega) | simpa using h_) (seg := [.int .i64 (wrap64 (((rd_T42 x9_3 x11_3).f0) + (t279.length : Int)))]) (j := 0) hcl49 hcc49 (show 1 ≤ 3 from by decide) (x' := (⟨wrap64 (((rd_T42 x9_3 x11_3).f0) + (t279.length : Int)), (rd_T42 x9_3 x11_3).f1, (rd_T42 x9_3 x11_3).f2⟩ : S42)) (k42_mkM _ _ _ (⟨wrap64 (((rd_T42 x9_3 x11_3).f0) + (t279.length : Int)), (rd_T42 x9_3 x11_3).f1, (rd_T42 x9_3 x11_3).f2⟩ : S42) ) (fun _ hk => hk)
                          have hx49_0 := hcc49 0 _ rfl
                          (try simp only [show (k42).sz = 3 from rfl, Nat.mul_one, Nat.add_zero] at hx49_0)
                          have hf49_0 := hfr49 0
                          (try simp only [show (k42).sz = 3 from rfl, Nat.mul_one, Nat.add_zero] at hf49_0)
                          clear hcl49 hcc49 hfr49 hM49
                          go_wp2_with (first | ((with_reducible refine gate_store (t := 3) (p := 70) rfl ?_); refine store_event (t := 3) (p := 70) (v := ?vo_w50) (w1 := (wr.setCell ⟨go47, (x11_3 : Int).toNat * 3, none⟩ (.int .i64 (wrap64 (((rd_T42 x9_3 x11_3).f0) + (t279.length : Int)))))) ?hg ?ho ?hn ?hr ?_; (case ho => rfl); (case hg => rfl); (case hn => rfl); (case hr => first | (go_simp; done) | (go_simp; rfl)); intro w50 hw; have hg : wr.grownBy w50 (some go47) := (by rw [hw]; exact HP49.2); have hp_ : Kd.R k42 42 w50 w.heap.size (fun k_ => some k_ ≠ (v286 : Value).ownBlock ∧ some k_ ≠ (v301 : Value).ownBlock) (.slice (some ⟨go47, 0, none⟩) x9_3.length co48) y314 := (by rw [hw, Ny314.out]; exact HP49.1); clear HP49; have n0_ := Aside0.mk (Kd.R_over' (v := (.slice (some ⟨go47, 0, none⟩) x9_3.length co48)) (by (with_reducible repeat (first | apply Kd.R_alloc | apply Kd.R_drewN | apply Kd.R_drew)); exact HO_6.out) (Kd.R_typed HO_9.out) (by decide) hg); have n1_ := Aside0.mk (Kd.R_after (v := (.slice (some ⟨go47, 0, none⟩) x9_3.length co48)) (v1 := (.slice (some ⟨go47, 0, none⟩) x9_3.length co48)) (ok := (fun k_ => some k_ ≠ (v301 : Value).ownBlock)) (by (with_reducible repeat (first | apply Kd.R_alloc | apply Kd.R_drewN | apply Kd.R_drew)); exact Kd.R_mono HO_8.out (fun _ hk => ⟨hk.2, hk.1⟩)) hg (.inl rfl)); have n2_ := Aside0.mk (hp_); have n3_ := Aside0.mk (Kd.R_after (v := (.slice (some ⟨go47, 0, none⟩) x9_3.length co48)) (v1 := (.slice (some ⟨go47, 0, none⟩) x9_3.length co48)) (ok := (fun k_ => some k_ ≠ (v286 : Value).ownBlock)) (by (with_reducible repeat (first | apply Kd.R_alloc | apply Kd.R_drewN | apply Kd.R_drew)); exact HO_10.out) hg (.inl rfl)); have n4_ := Aside0.mk ((by rw [hw]; exact below_set (HB.out) GB47.out : Below w.heap.size w w50)); clear HO_6; clear HO_8; clear HO_9; clear HO_10; clear HB; have HO_6 := n0_; have HO_8 := n1_; have HO_9 := n2_; have HO_10 := n3_; have HB := n4_; clear n0_ n1_ n2_ n3_ n4_; clear hg hw hp_))
                          go_roundg k3
                          case measure => have := HJ3.out; have := HJ14.out; have := HK3.out; omega
                          case rel => exact ⟨(y314), (wrap64 (x11_3 + 1)), (by first | rfl | (simp; done) | (simp [*]; done)), H', ⟨by have := HJ3.out; have := HJ14.out; have := HK3.out; omega⟩, ⟨by (with_reducible repeat (first | apply Kd.R_alloc | apply Kd.R_drewN | apply Kd.R_drew)); exact HO_6.out⟩, ⟨by (with_reducible repeat (first | apply Kd.R_alloc | apply Kd.R_drewN | apply Kd.R_drew)); exact Kd.R_mono HO_8.out (fun _ hk => ⟨hk.2, hk.1⟩)⟩, ⟨by (with_reducible repeat (first | apply Kd.R_alloc | apply Kd.R_drewN | apply Kd.R_drew)); exact HO_9.out⟩, ⟨by (with_reducible repeat (first | apply Kd.R_alloc | apply Kd.R_drewN | apply Kd.R_drew)); exact HO_10.out⟩, ⟨by repeat (first | (with_reducible first | exact HB.out | apply below_alloc | apply pw_below_drewN | apply below_drew1) | exact HB.out)⟩⟩
                        · rw [if_neg c46] at H
                          exact absurd H (by simp)
                      · rw [if_neg c45] at H
                        have c45b0 : decide (x11_3 < (x9_3.length : Int)) = false := decide_eq_false c45
                        clear c45
                        by_cases c51 : t278 = true
                        · subst c51
                          have H1 : (if 0 ≤ (t285.length : Int) then (if (t285.length : Int) ≤ (t300.length : Int) then ((lockfastref11_Same.f k3 (t300.take ((t285.length : Int) : Int).toNat) t285).bind fun t319 => (if t319 = true then ((lockfastref11_Same.f k3 (t300.drop ((t285.length : Int) : Int).toNat) x9_3).bind fun t324 => (some t324)) else (some false))) else (none)) else (none)) = some r := by rw [if_pos rfl] at H; exact H
                          clear H
                          have H := H1
                          clear H1
                          by_cases c52 : 0 ≤ (t285.length : Int)
                          · rw [if_pos c52] at H
                            have c52b0 := eq_true c52
                            have c52b1 : decide (0 ≤ (t285.length : Int)) = true := decide_eq_true c52
                            clear c52
                            by_cases c53 : (t285.length : Int) ≤ (t300.length : Int)
                            · rw [if_pos c53] at H
                              have c53b0 := eq_true c53
                              have c53b1 : decide ((t285.length : Int) ≤ (t300.length : Int)) = true := decide_eq_true c53
                              clear c53
                              obtain ⟨y315, hy315⟩ : ∃ y_ : List (S42), y_ = (t300.take ((t285.length : Int) : Int).toNat) := ⟨_, rfl⟩
                              replace H : ((lockfastref11_Same.f k3 y315 t285).bind fun t319 => (if t319 = true then ((lockfastref11_Same.f k3 (t300.drop ((t285.length : Int) : Int).toNat) x9_3).bind fun t324 => (some t324)) else (some false))) = some r := by first | (rw [hy315]; with_reducible exact H) | (have H2_ := (Option.bind_some _ _).symm.trans H; rw [hy315]; with_reducible exact H2_) | (have H2_ := (Option.bind_some _ _).symm.trans H; with_reducible exact H2_) | with_reducible exact H | (rw [hy315]; exact H) | exact H
                              have Ny315 := Aside0.mk hy315
                              clear hy315
                              replace H := Option.bind_eq_some_iff.mp H
                              obtain ⟨t319, A540, H⟩ := H
                              replace H : (if t319 = true then ((lockfastref11_Same.f k3 (t300.drop ((t285.length : Int) : Int).toNat) x9_3).bind fun t324 => (some t324)) else (some false)) = some r := H
                              have A54 := Aside0.mk A540
                              clear A540
                              by_cases c55 : t319 = true
                              · subst c55
                                have H1 : ((lockfastref11_Same.f k3 (t300.drop ((t285.length : Int) : Int).toNat) x9_3).bind fun t324 => (some t324)) = some r := by rw [if_pos rfl] at H; exact H
                                clear H
                                have H := H1
                                clear H1
                                have c56b0 := eq_true (of_decide_eq_true (by first | (with_reducible assumption) | assumption) : 0 ≤ (t285.length : Int))
                                have c57b0 := eq_true (of_decide_eq_true (by first | (with_reducible assumption) | assumption) : (t285.length : Int) ≤ (t300.length : Int))
                                obtain ⟨y320, hy320⟩ : ∃ y_ : List (S42), y_ = (t300.drop ((t285.length : Int) : Int).toNat) := ⟨_, rfl⟩
                                replace H : ((lockfastref11_Same.f k3 y320 x9_3).bind fun t324 => (some t324)) = some r := by first | (rw [hy320]; with_reducible exact H) | (have H2_ := (Option.bind_some _ _).symm.trans H; rw [hy320]; with_reducible exact H2_) | (have H2_ := (Option.bind_some _ _).symm.trans H; with_reducible exact H2_) | with_reducible exact H | (rw [hy320]; exact H) | exact H
                                have Ny320 := Aside0.mk hy320
                                clear hy320
                                replace H := Option.bind_eq_some_iff.mp H
                                obtain ⟨t324, A580, H⟩ := H
                                replace H : (some t324) = some r := H
                                have A58 := Aside0.mk A580
                                clear A580
                                obtain rfl := Option.some.inj H
                                obtain ⟨Ao59, co59, eo59⟩ := Kd.R_slice HO_9.out
                                subst eo59
                                obtain ⟨Ao60, co60, eo60⟩ := Kd.R_slice HO_8.out
                                subst eo60
                                obtain ⟨Ao62, co62, eo62⟩ := Kd.R_slice HO_10.out
                                subst eo62
                                have q61 : ((t285.length : Int) : Int) ≤ ((t300.length : Int) : Int) := of_decide_eq_true (by first | (with_reducible assumption) | assumption)
                                obtain ⟨i061, hi061, _, hsz61, _⟩ := info_parts info42
                                have hroom61 : t300.length ≤ co62 := (Kd.R_reads' HO_10.out).2.1
                                have hC61 : Kd.C k42 _ Ao62 t300.length t300 := (Kd.R_reads' HO_10.out).2.2
                                have hcut61 := cut_to (P := Tryd.prog) 39 42 .i64 Tryd.underlying39 hi061 Ao62 t300.length co62 (t285.length : Int) (of_decide_eq_true (by first | (with_reducible assumption) | assumption)) q61 hroom61
                                have hr61 := Kd.C_take (m := ((t285.length : Int) : Int).toNat) hC61 (by omega)
                                have hy61 : y315.length = ((t285.length : Int) : Int).toNat := (by rw [Ny315.out, List.length_take]; omega)
                                rw [← Ny315.out] at hr61
                                rw [← hy61] at hcut61
                                have HR318 := Aside0.mk hr61
                                have HC318 := Aside0.mk (show y315.length ≤ co62 from by omega)
                                clear hr61 hC61 hroom61 hi061 hsz61
                                have KY61 := Aside0.mk hy61
                                clear hy61
                                have KL61 := Aside0.mk (show ((t285.length : Int) : Int).toNat ≤ t300.length from by omega)
                                replace q61 := eq_true q61
                                go_wp2_with (first | (go_at_call 24; (with_reducible refine (lockfastref11_Same.calls k3 _ _ y315 _ _ t285 true _ ?side1 ?side2 ?side3 ?side4 A54.out).mono ?_); (case side1 => repeat (first | exact (by repeat (first | (with_reducible exact HR318.out) | (with_reducible refine Kd.C_alloc ?_ _) | (with_reducible refine Kd.C_drewN ?_ _) | (with_reducible refine Kd.C_drew ?_) | exact HR318.out)) | (with_reducible refine Kd.C_alloc ?_ _) | (with_reducible refine Kd.C_drewN ?_ _) | (with_reducible refine Kd.C_drew ?_))); (case side2 => exact HC318.out); (case side3 => repeat (first | exact (Kd.R_reads' HO_8.out).2.2 | (with_reducible refine Kd.C_alloc ?_ _) | (with_reducible refine Kd.C_drewN ?_ _) | (with_reducible refine Kd.C_drew ?_))); (case side4 => exact (Kd.R_reads' HO_8.out).2.1); rintro e w' ⟨rfl, ⟨nd, rfl⟩⟩; have q63 : ((t285.length : Int) : Int) ≤ ((t300.length : Int) : Int) := of_decide_eq_true (by first | (with_reducible assumption) | assumption); obtain ⟨i063, hi063, _, hsz63, _⟩ := info_parts info42; have hroom63 : t300.length ≤ co62 := (Kd.R_reads' HO_10.out).2.1; have hC63 : Kd.C k42 _ Ao62 t300.length t300 := (Kd.R_reads' HO_10.out).2.2; have q063 : (0 : Int) ≤ ((t285.length : Int) : Int) := of_decide_eq_true (by first | (with_reducible assumption) | assumption); have hcut63 := cut_from (P := Tryd.prog) 39 42 .i64 Tryd.underlying39 hi063 3 hsz63 Ao62 t300.length co62 (t285.length : Int) q063 q63; have hr63 := Kd.C_drop (m := ((t285.length : Int) : Int).toNat) (c := co62) hC63 (by omega) hroom63; obtain ⟨A63, hA63⟩ : ∃ A1, A1 = (if co62 = ((t285.length : Int) : Int).toNat then Ao62 else (Ao62 : Option Addr).map (·.add (((t285.length : Int) : Int).toNat * 3))) := ⟨_, rfl⟩; obtain ⟨c63, hc63⟩ : ∃ c1, c1 = co62 - ((t285.length : Int) : Int).toNat := ⟨_, rfl⟩; have hy63 : y320.length = t300.length - ((t285.length : Int) : Int).toNat := (by rw [Ny320.out, List.length_drop] <;> omega); rw [show (t300).drop ((t285.length : Int) : Int).toNat = y320 from Ny320.out.symm] at hr63; replace hr63 : Kd.C k42 _ A63 y320.length y320 := (by rw [hA63]; exact hr63); rw [← hy63, ← hA63, ← hc63] at hcut63; have HR323 := Aside0.mk hr63; have HC323 := Aside0.mk (show y320.length ≤ c63 from by rw [hy63, hc63]; exact Nat.sub_le_sub_right hroom63 _); clear hr63 hC63 hroom63 hi063 hsz63 hc63; have KY63 := Aside0.mk hy63; have KA63 := Aside0.mk hA63; clear hy63 hA63; have KL63 := Aside0.mk (show ((t285.length : Int) : Int).toNat ≤ t300.length from by omega); replace q63 := eq_true q63) | (go_at_call 24; (with_reducible refine (lockfastref11_Same.calls k3 _ _ y320 _ _ x9_3 t324 _ ?side1 ?side2 ?side3 ?side4 A58.out).mono ?_); (case side1 => repeat (first | exact (by repeat (first | (with_reducible exact HR323.out) | (with_reducible refine Kd.C_alloc ?_ _) | (with_reducible refine Kd.C_drewN ?_ _) | (with_reducible refine Kd.C_drew ?_) | exact HR323.out)) | (with_reducible refine Kd.C_alloc ?_ _) | (with_reducible refine Kd.C_drewN ?_ _) | (with_reducible refine Kd.C_drew ?_))); (case side2 => exact HC323.out); (case side3 => repeat (first | exact (Kd.R_reads' HO_9.out).2.2 | (with_reducible refine Kd.C_alloc ?_ _) | (with_reducible refine Kd.C_drewN ?_ _) | (with_reducible refine Kd.C_drew ?_))); (case side4 => exact (Kd.R_reads' HO_9.out).2.1); rintro e w' ⟨rfl, ⟨nd, rfl⟩⟩))
                                go_ret
                                exact ⟨by first | rfl | (simp [errW_none, errW_some] <;> rfl) | (simp [*, errW_none, errW_some] <;> rfl), by repeat (first | (with_reducible first | exact HB.out | apply below_alloc | apply pw_below_drewN | apply below_drew1) | exact HB.out)⟩
                              · replace c55 := Bool.eq_false_iff.mpr c55
                                subst c55
                                have H1 : (some false) = some r := by rw [if_neg (show ¬ (false = true) by decide)] at H; exact H
                                clear H
                                have H := H1
                                clear H1
                                obtain rfl := Option.some.inj H
                                obtain ⟨Ao64, co64, eo64⟩ := Kd.R_slice HO_9.out
                                subst eo64
                                obtain ⟨Ao65, co65, eo65⟩ := Kd.R_slice HO_8.out
                                subst eo65
                                obtain ⟨Ao67, co67, eo67⟩ := Kd.R_slice HO_10.out
                                subst eo67
                                have q66 : ((t285.length : Int) : Int) ≤ ((t300.length : Int) : Int) := of_decide_eq_true (by first | (with_reducible assumption) | assumption)
                                obtain ⟨i066, hi066, _, hsz66, _⟩ := info_parts info42
                                have hroom66 : t300.length ≤ co67 := (Kd.R_reads' HO_10.out).2.1
                                have hC66 : Kd.C k42 _ Ao67 t300.length t300 := (Kd.R_reads' HO_10.out).2.2
                                have hcut66 := cut_to (P := Tryd.prog) 39 42 .i64 Tryd.underlying39 hi066 Ao67 t300.length co67 (t285.length : Int) (of_decide_eq_true (by first | (with_reducible assumption) | assumption)) q66 hroom66
                                have hr66 := Kd.C_take (m := ((t285.length : Int) : Int).toNat) hC66 (by omega)
                                have hy66 : y315.length = ((t285.length : Int) : Int).toNat := (by rw [Ny315.out, List.length_take]; omega)
                                rw [← Ny315.out] at hr66
                                rw [← hy66] at hcut66
                                have HR318 := Aside0.mk hr66
                                have HC318 := Aside0.mk (show y315.length ≤ co67 from by omega)
                                clear hr66 hC66 hroom66 hi066 hsz66
                                have KY66 := Aside0.mk hy66
                                clear hy66
                                have KL66 := Aside0.mk (show ((t285.length : Int) : Int).toNat ≤ t300.length from by omega)
                                replace q66 := eq_true q66
                                go_wp2_with (first | (go_at_call 24; (with_reducible refine (lockfastref11_Same.calls k3 _ _ y315 _ _ t285 false _ ?side1 ?side2 ?side3 ?side4 A54.out).mono ?_); (case side1 => repeat (first | exact (by repeat (first | (with_reducible exact HR318.out) | (with_reducible refine Kd.C_alloc ?_ _) | (with_reducible refine Kd.C_drewN ?_ _) | (with_reducible refine Kd.C_drew ?_) | exact HR318.out)) | (with_reducible refine Kd.C_alloc ?_ _) | (with_reducible refine Kd.C_drewN ?_ _) | (with_reducible refine Kd.C_drew ?_))); (case side2 => exact HC318.out); (case side3 => repeat (first | exact (Kd.R_reads' HO_8.out).2.2 | (with_reducible refine Kd.C_alloc ?_ _) | (with_reducible refine Kd.C_drewN ?_ _) | (with_reducible refine Kd.C_drew ?_))); (case side4 => exact (Kd.R_reads' HO_8.out).2.1); rintro e w' ⟨rfl, ⟨nd, rfl⟩⟩))
                                go_ret
                                exact ⟨by first | rfl | (simp [errW_none, errW_some] <;> rfl) | (simp [*, errW_none, errW_some] <;> rfl), by repeat (first | (with_reducible first | exact HB.out | apply below_alloc | apply pw_below_drewN | apply below_drew1) | exact HB.out)⟩
                            · rw [if_neg c53] at H
                              exact absurd H (by simp)
                          · rw [if_neg c52] at H
                            exact absurd H (by simp)
                        · replace c51 := Bool.eq_false_iff.mpr c51
                          subst c51
                          have H1 : (some false) = some r := by rw [if_neg (show ¬ (false = true) by decide)] at H; exact H
                          clear H
                          have H := H1
                          clear H1
                          obtain rfl := Option.some.inj H
                          obtain ⟨Ao68, co68, eo68⟩ := Kd.R_slice HO_9.out
                          subst eo68
                          go_wp2
                          go_ret
                          exact ⟨by first | rfl | (simp [errW_none, errW_some] <;> rfl) | (simp [*, errW_none, errW_some] <;> rfl), by repeat (first | (with_reducible first | exact HB.out | apply below_alloc | apply pw_below_drewN | apply below_drew1) | exact HB.out)⟩
          · rw [if_neg c13] at H
            exact absurd H (by simp)
        · rw [if_neg c12] at H
          exact absurd H (by simp)


/-! ### chunk_Bit: function 27 -/
def chunk_Bit.f (a0 : Int) : Option (Int) := if a0 < 0 then (some 0) else (if a0 ≥ 8 then (some 0) else (if 0 ≤ (wrap64 (24 + a0)) then (some (shl .u64 1 (wrap64 (24 + a0)))) else (none)))
set_option maxHeartbeats 8000000 in
set_option maxRecDepth 100000 in
theorem chunk_Bit.calls (a0 : Int) (r : Int) (w : World) (h : chunk_Bit.f a0 = some r) :
    Calls Tryd.prog 27 #[.int .i64 a0] w fun e w' => e = .returned (.int .u64 r) ∧ Drawn0 w w' := by
  have H : (if a0 < 0 then (some 0) else (if a0 ≥ 8 then (some 0) else (if 0 ≤ (wrap64 (24 + a0)) then (some (shl .u64 1 (wrap64 (24 + a0)))) else (none)))) = some r := h
  clear h
  by_cases c2 : a0 < 0
  · rw [if_pos c2] at H
    have c2b0 : decide (a0 < 0) = true := decide_eq_true c2
    clear c2
    obtain rfl := Option.some.inj H
    go_enter Tryd.func27, Tryd.ntmps27
    go_wp2
    go_ret
    exact ⟨by first | rfl | (simp; done) | (simp [*]; done), by repeat (first | exact Drawn0.refl _ | apply Drawn0.step)⟩
  · rw [if_neg c2] at H
    have c2b0 : decide (a0 < 0) = false := decide_eq_false c2
    clear c2
    by_cases c3 : a0 ≥ 8
    · rw [if_pos c3] at H
      have c3b0 : decide (8 ≤ a0) = true := decide_eq_true c3
      clear c3
      obtain rfl := Option.some.inj H
      go_enter Tryd.func27, Tryd.ntmps27
      go_wp2
      go_ret
      exact ⟨by first | rfl | (simp; done) | (simp [*]; done), by repeat (first | exact Drawn0.refl _ | apply Drawn0.step)⟩
    · rw [if_neg c3] at H
      have c3b0 : decide (8 ≤ a0) = false := decide_eq_false c3
      clear c3
      obtain ⟨ji4, hji4⟩ : ∃ j_ : Int, (wrap64 (24 + a0)) = j_ := ⟨_, rfl⟩
      replace H : (if 0 ≤ (ji4) then (some (shl .u64 1 (ji4))) else (none)) = some r := by first | (rw [hji4] at H; exact H) | (simp only [hji4] at H ⊢; exact H)
      have hji4w : (IntKind.i64.wrap (24 + a0)) = ji4 := (i64_w _).trans hji4
      by_cases c5 : 0 ≤ (ji4)
      · rw [if_pos c5] at H
        have c5b0 := eq_true c5
        have c5b1 : decide (0 ≤ (ji4)) = true := decide_eq_true c5
        clear c5
        obtain ⟨ji6, hji6⟩ : ∃ j_ : Int, (shl .u64 1 (ji4)) = j_ := ⟨_, rfl⟩
        replace H : (some ji6) = some r := by first | (rw [hji6] at H; exact H) | (simp only [hji6] at H ⊢; exact H)
        have hji6_ : (IntKind.u64.wrap (1 * 2 ^ min (ji4).toNat 64)) = ji6 := hji6
        have hji6z : (ji4) ≤ 64 → (IntKind.u64.wrap (1 * 2 ^ (ji4).toNat)) = ji6 := shl_small hji6
        have hji6u : (IntKind.u64.wrap (2 ^ min (ji4).toNat 64)) = ji6 := by have h_ := hji6_; rw [Int.one_mul] at h_; exact h_
        have hji6v : (ji4) ≤ 64 → (IntKind.u64.wrap (2 ^ (ji4).toNat)) = ji6 := fun hle_ => by have h_ := hji6z hle_; rw [Int.one_mul] at h_; exact h_
        obtain rfl := Option.some.inj H
        go_enter Tryd.func27, Tryd.ntmps27
        go_wp2
        go_ret
        exact ⟨by first | rfl | (simp; done) | (simp only [← hji4, ← hji6] <;> (first | rfl | simp)) | (simp [*]; done), by repeat (first | exact Drawn0.refl _ | apply Drawn0.step)⟩
      · rw [if_neg c5] at H
        exact absurd H (by simp)

end Go.Proofs.YtflbmccjfnkflaaDoor.Q
