-- Written by lfprint.py of this session's own, by way of the kit's print.py; with hand-made contracts.
import Derived.Test.YtflbmccjfnkflaaDoorQx0
import Derived.Test.YtflbmccjfnkflaaDoorQx5
import Derived.Test.YtflbmccjfnkflaaDoorQx10
import Derived.Test.YtflbmccjfnkflaaDoorQx15
import Derived.Test.YtflbmccjfnkflaaDoorQx16
import Derived.Test.YtflbmccjfnkflaaDoorQx20
import Derived.Test.YtflbmccjfnkflaaDoorQx29
namespace Go.Proofs.YtflbmccjfnkflaaDoor.Q
open Go.RowKit Go.Proofs.YtflbmccjfnkflaaDoorW.PrintWords Go.Proofs.YtflbmccjfnkflaaDoorW.PrintLast Go.Proofs.YtflbmccjfnkflaaDoorW.PrintMore
attribute [local go_sem] max2_int min2_int max_two min_two max_three min_three max_four min_four   -- for this text's walks alone
set_option linter.unusedVariables false
set_option linter.unusedSimpArgs false

/-! ### lockfastlaw11_TileWhole: function 13 -/
mutual
def lockfastlaw11_TileWhole.l0 : Nat → Bool → List Int → List Int → List (S42) → Int → Int → Option (Bool)
  | 0, _, _, _, _, _, _ => none
  | k + 1, x3, x4, x5, x28, x29, x30 => if x30 < x29 then (if 0 ≤ x30 then (if x30 < (x28.length : Int) then (if ((rd_T42 x28 x30).f0) < 0 then (lockfastlaw11_TileWhole.j1 k x3 x4 x5 x28 x29 x30 true ((rd_T42 x28 x30).f0) ((rd_T42 x28 x30).f1) ((rd_T42 x28 x30).f2)) else (if ((rd_T42 x28 x30).f0) ≥ (x4.length : Int) then (lockfastlaw11_TileWhole.j1 k x3 x4 x5 x28 x29 x30 true ((rd_T42 x28 x30).f0) ((rd_T42 x28 x30).f1) ((rd_T42 x28 x30).f2)) else (if ((rd_T42 x28 x30).f1) < 0 then (lockfastlaw11_TileWhole.j1 k x3 x4 x5 x28 x29 x30 true ((rd_T42 x28 x30).f0) ((rd_T42 x28 x30).f1) ((rd_T42 x28 x30).f2)) else (lockfastlaw11_TileWhole.j1 k x3 x4 x5 x28 x29 x30 (decide (((rd_T42 x28 x30).f2) < 1)) ((rd_T42 x28 x30).f0) ((rd_T42 x28 x30).f1) ((rd_T42 x28 x30).f2))))) else (none)) else (none)) else ((tile_Rows.f k x4).bind fun t235 => (lockfastlaw11_TileWhole.l2 k x3 x4 x5 t235 (t235.length : Int) 0))
def lockfastlaw11_TileWhole.j1 : Nat → Bool → List Int → List Int → List (S42) → Int → Int → Bool → Int → Int → Int → Option (Bool)
  | 0, _, _, _, _, _, _, _, _, _, _ => none
  | k + 1, x3, x4, x5, x28, x29, x30, x53, x230000, x230001, x230002 => if x53 = true then (some false) else (if x230002 < 32 then (if 0 ≤ x230000 then (if x230000 < (x5.length : Int) then (if 0 ≤ (wrap64 (16 + x230001)) then (if (Go.bits .and .i64 (shr .i64 (rd x5 x230000) (wrap64 (16 + x230001))) 1) = 1 then (some false) else (if (wrap64 ((wrap64 (x230001 + 1)) * x230002)) > 32 then (some false) else (lockfastlaw11_TileWhole.l0 k x3 x4 (x5.set (x230000 : Int).toNat (Go.bits .or .i64 (Go.bits .or .i64 (rd x5 x230000) 1) (shl .i64 1 (wrap64 (16 + x230001))))) x28 x29 (wrap64 (x30 + 1))))) else (none)) else (none)) else (none)) else (lockfastlaw11_TileWhole.l1 k x3 x4 x5 0 x28 x29 x30 x230000 x230001 x230002))
def lockfastlaw11_TileWhole.l1 : Nat → Bool → List Int → List Int → Int → List (S42) → Int → Int → Int → Int → Int → Option (Bool)
  | 0, _, _, _, _, _, _, _, _, _, _ => none
  | k + 1, x3, x4, x5, x8, x28, x29, x30, x230000, x230001, x230002 => if x8 < (wrap64 (Int.tdiv x230002 32)) then (if (wrap64 (x230000 + x8)) ≥ (x4.length : Int) then (some false) else (if 0 ≤ (wrap64 (x230000 + x8)) then (if (wrap64 (x230000 + x8)) < (x5.length : Int) then (if (rd x5 (wrap64 (x230000 + x8))) = 0 then (lockfastlaw11_TileWhole.l1 k x3 x4 (x5.set ((wrap64 (x230000 + x8)) : Int).toNat 2) (wrap64 (x8 + 1)) x28 x29 x30 x230000 x230001 x230002) else (some false)) else (none)) else (none))) else (lockfastlaw11_TileWhole.l0 k x3 x4 x5 x28 x29 (wrap64 (x30 + 1)))
def lockfastlaw11_TileWhole.l2 : Nat → Bool → List Int → List Int → List (S36) → Int → Int → Option (Bool)
  | 0, _, _, _, _, _, _ => none
  | k + 1, x3, x4, x5, x124, x125, x126 => if x126 < x125 then (if 0 ≤ x126 then (if x126 < (x124.length : Int) then (lockfastlaw11_TileWhole.l3 k x3 x4 x5 0 x124 x125 x126 ((rd_T36 x124 x126).f0) ((rd_T36 x124 x126).f1)) else (none)) else (none)) else (lockfastlaw11_TileWhole.l4 k x3 x4 x5 0)
def lockfastlaw11_TileWhole.l3 : Nat → Bool → List Int → List Int → Int → List (S36) → Int → Int → Int → Int → Option (Bool)
  | 0, _, _, _, _, _, _, _, _, _ => none
  | k + 1, x3, x4, x5, x11, x124, x125, x126, x240000, x240001 => if x11 < x240001 then (if x240000 < 0 then (some false) else (if (wrap64 (x240000 + x11)) ≥ (x4.length : Int) then (some false) else (if 0 ≤ (wrap64 (x240000 + x11)) then (if (wrap64 (x240000 + x11)) < (x5.length : Int) then (if (rd x5 (wrap64 (x240000 + x11))) = 0 then (lockfastlaw11_TileWhole.l3 k x3 x4 (x5.set ((wrap64 (x240000 + x11)) : Int).toNat 4) (wrap64 (x11 + 1)) x124 x125 x126 x240000 x240001) else (some false)) else (none)) else (none)))) else (lockfastlaw11_TileWhole.l2 k x3 x4 x5 x124 x125 (wrap64 (x126 + 1)))
def lockfastlaw11_TileWhole.l4 : Nat → Bool → List Int → List Int → Int → Option (Bool)
  | 0, _, _, _, _ => none
  | k + 1, x3, x4, x5, x12 => if x12 < 64 then ((tile_Logs.f k x4 x12).bind fun t242 => (lockfastlaw11_TileWhole.l5 k x3 x4 x5 x12 t242 (t242.length : Int) 0)) else (lockfastlaw11_TileWhole.l6 k x3 x4 x5 0)
def lockfastlaw11_TileWhole.l5 : Nat → Bool → List Int → List Int → Int → List Int → Int → Int → Option (Bool)
  | 0, _, _, _, _, _, _, _ => none
  | k + 1, x3, x4, x5, x12, x171, x172, x173 => if x173 < x172 then (if 0 ≤ x173 then (if x173 < (x171.length : Int) then (if (rd x171 x173) < 0 then (some false) else (if (rd x171 x173) ≥ (x4.length : Int) then (some false) else (if 0 ≤ (rd x171 x173) then (if (rd x171 x173) < (x5.length : Int) then (if (rd x5 (rd x171 x173)) = 0 then (lockfastlaw11_TileWhole.l5 k x3 x4 (x5.set ((rd x171 x173) : Int).toNat 8) x12 x171 x172 (wrap64 (x173 + 1))) else (some false)) else (none)) else (none)))) else (none)) else (none)) else (lockfastlaw11_TileWhole.l4 k x3 x4 x5 (wrap64 (x12 + 1)))
def lockfastlaw11_TileWhole.l6 : Nat → Bool → List Int → List Int → Int → Option (Bool)
  | 0, _, _, _, _ => none
  | k + 1, x3, x4, x5, x15 => if x15 < (x4.length : Int) then (if 0 ≤ x15 then (if x15 < (x5.length : Int) then (if (rd x5 x15) = 0 then (some false) else (lockfastlaw11_TileWhole.l6 k x3 x4 x5 (wrap64 (x15 + 1)))) else (none)) else (none)) else (some x3)
end
def lockfastlaw11_TileWhole.f (k : Nat) (l0 : List Int) : Option (Bool) := (lockfastlaw11_awake.f k).bind fun t218 => (if (l0.length : Int) > 60 then (some t218) else ((lockfastref11_Made.f k l0 40).bind fun t219 => (if 0 ≤ (wrap64 ((t219.length : Int) + 1)) then (if (wrap64 ((t219.length : Int) + 1) : Int).toNat ≤ 35184372088832 then ((tile_Blocks.f k t219).bind fun t225 => (lockfastlaw11_TileWhole.l0 k t218 t219 (List.replicate (wrap64 ((t219.length : Int) + 1) : Int).toNat 0) t225 (t225.length : Int) 0)) else (none)) else (none))))
theorem lockfastlaw11_TileWhole.mono_l : ∀ k, (∀ y0 y1 y2 y3 y4 y5, LeO (lockfastlaw11_TileWhole.l0 k y0 y1 y2 y3 y4 y5) (lockfastlaw11_TileWhole.l0 (k + 1) y0 y1 y2 y3 y4 y5)) ∧ (∀ y0 y1 y2 y3 y4 y5 y6 y7 y8 y9, LeO (lockfastlaw11_TileWhole.j1 k y0 y1 y2 y3 y4 y5 y6 y7 y8 y9) (lockfastlaw11_TileWhole.j1 (k + 1) y0 y1 y2 y3 y4 y5 y6 y7 y8 y9)) ∧ (∀ y0 y1 y2 y3 y4 y5 y6 y7 y8 y9, LeO (lockfastlaw11_TileWhole.l1 k y0 y1 y2 y3 y4 y5 y6 y7 y8 y9) (lockfastlaw11_TileWhole.l1 (k + 1) y0 y1 y2 y3 y4 y5 y6 y7 y8 y9)) ∧ (∀ y0 y1 y2 y3 y4 y5, LeO (lockfastlaw11_TileWhole.l2 k y0 y1 y2 y3 y4 y5) (lockfastlaw11_TileWhole.l2 (k + 1) y0 y1 y2 y3 y4 y5)) ∧ (∀ y0 y1 y2 y3 y4 y5 y6 y7 y8, LeO (lockfastlaw11_TileWhole.l3 k y0 y1 y2 y3 y4 y5 y6 y7 y8) (lockfastlaw11_TileWhole.l3 (k + 1) y0 y1 y2 y3 y4 y5 y6 y7 y8)) ∧ (∀ y0 y1 y2 y3, LeO (lockfastlaw11_TileWhole.l4 k y0 y1 y2 y3) (lockfastlaw11_TileWhole.l4 (k + 1) y0 y1 y2 y3)) ∧ (∀ y0 y1 y2 y3 y4 y5 y6, LeO (lockfastlaw11_TileWhole.l5 k y0 y1 y2 y3 y4 y5 y6) (lockfastlaw11_TileWhole.l5 (k + 1) y0 y1 y2 y3 y4 y5 y6)) ∧ (∀ y0 y1 y2 y3, LeO (lockfastlaw11_TileWhole.l6 k y0 y1 y2 y3) (lockfastlaw11_TileWhole.l6 (k + 1) y0 y1 y2 y3))
  | 0 => ⟨fun _ _ _ _ _ _ r h => by simp [lockfastlaw11_TileWhole.l0] at h, fun _ _ _ _ _ _ _ _ _ _ r h => by simp [lockfastlaw11_TileWhole.j1] at h, fun _ _ _ _ _ _ _ _ _ _ r h => by simp [lockfastlaw11_TileWhole.l1] at h, fun _ _ _ _ _ _ r h => by simp [lockfastlaw11_TileWhole.l2] at h, fun _ _ _ _ _ _ _ _ _ r h => by simp [lockfastlaw11_TileWhole.l3] at h, fun _ _ _ _ r h => by simp [lockfastlaw11_TileWhole.l4] at h, fun _ _ _ _ _ _ _ r h => by simp [lockfastlaw11_TileWhole.l5] at h, fun _ _ _ _ r h => by simp [lockfastlaw11_TileWhole.l6] at h⟩
  | k + 1 => by
    obtain ⟨ih0, ih1, ih2, ih3, ih4, ih5, ih6, ih7⟩ := lockfastlaw11_TileWhole.mono_l k
    refine ⟨?_, ?_, ?_, ?_, ?_, ?_, ?_, ?_⟩
    · intro y0 y1 y2 y3 y4 y5
      unfold lockfastlaw11_TileWhole.l0
      repeat' first
      | (with_reducible exact ih0 _ _ _ _ _ _)
      | (with_reducible exact ih1 _ _ _ _ _ _ _ _ _ _)
      | (with_reducible exact ih2 _ _ _ _ _ _ _ _ _ _)
      | (with_reducible exact ih3 _ _ _ _ _ _)
      | (with_reducible exact ih4 _ _ _ _ _ _ _ _ _)
      | (with_reducible exact ih5 _ _ _ _)
      | (with_reducible exact ih6 _ _ _ _ _ _ _)
      | (with_reducible exact ih7 _ _ _ _)
      | (with_reducible exact lockfastlaw11_awake.mono _)
      | (with_reducible exact lockfastref11_Made.mono _ _ _)
      | (with_reducible exact tile_Blocks.mono _ _)
      | (with_reducible exact tile_Logs.mono _ _ _)
      | (with_reducible exact tile_Rows.mono _ _)
      | (with_reducible exact LeO.refl _)
      | (with_reducible exact LeO.none _)
      | (with_reducible refine LeO.ite ?_ ?_)
      | (with_reducible refine LeO.bind ?_ (fun _ => ?_))
      | exact ih0 _ _ _ _ _ _
      | exact ih1 _ _ _ _ _ _ _ _ _ _
      | exact ih2 _ _ _ _ _ _ _ _ _ _
      | exact ih3 _ _ _ _ _ _
      | exact ih4 _ _ _ _ _ _ _ _ _
      | exact ih5 _ _ _ _
      | exact ih6 _ _ _ _ _ _ _
      | exact ih7 _ _ _ _
      | exact lockfastlaw11_awake.mono _
      | exact lockfastref11_Made.mono _ _ _
      | exact tile_Blocks.mono _ _
      | exact tile_Logs.mono _ _ _
      | exact tile_Rows.mono _ _
      | exact LeO.none _
      | refine LeO.ite ?_ ?_
      | refine LeO.bind ?_ (fun _ => ?_)
    · intro y0 y1 y2 y3 y4 y5 y6 y7 y8 y9
      unfold lockfastlaw11_TileWhole.j1
      repeat' first
      | (with_reducible exact ih0 _ _ _ _ _ _)
      | (with_reducible exact ih1 _ _ _ _ _ _ _ _ _ _)
      | (with_reducible exact ih2 _ _ _ _ _ _ _ _ _ _)
      | (with_reducible exact ih3 _ _ _ _ _ _)
      | (with_reducible exact ih4 _ _ _ _ _ _ _ _ _)
      | (with_reducible exact ih5 _ _ _ _)
      | (with_reducible exact ih6 _ _ _ _ _ _ _)
      | (with_reducible exact ih7 _ _ _ _)
      | (with_reducible exact lockfastlaw11_awake.mono _)
      | (with_reducible exact lockfastref11_Made.mono _ _ _)
      | (with_reducible exact tile_Blocks.mono _ _)
      | (with_reducible exact tile_Logs.mono _ _ _)
      | (with_reducible exact tile_Rows.mono _ _)
      | (with_reducible exact LeO.refl _)
      | (with_reducible exact LeO.none _)
      | (with_reducible refine LeO.ite ?_ ?_)
      | (with_reducible refine LeO.bind ?_ (fun _ => ?_))
      | exact ih0 _ _ _ _ _ _
      | exact ih1 _ _ _ _ _ _ _ _ _ _
      | exact ih2 _ _ _ _ _ _ _ _ _ _
      | exact ih3 _ _ _ _ _ _
      | exact ih4 _ _ _ _ _ _ _ _ _
      | exact ih5 _ _ _ _
      | exact ih6 _ _ _ _ _ _ _
      | exact ih7 _ _ _ _
      | exact lockfastlaw11_awake.mono _
      | exact lockfastref11_Made.mono _ _ _
      | exact tile_Blocks.mono _ _
      | exact tile_Logs.mono _ _ _
      | exact tile_Rows.mono _ _
      | exact LeO.none _
      | refine LeO.ite ?_ ?_
      | refine LeO.bind ?_ (fun _ => ?_)
    · intro y0 y1 y2 y3 y4 y5 y6 y7 y8 y9
      unfold lockfastlaw11_TileWhole.l1
      repeat' first
      | (with_reducible exact ih0 _ _ _ _ _ _)
      | (with_reducible exact ih1 _ _ _ _ _ _ _ _ _ _)
      | (with_reducible exact ih2 _ _ _ _ _ _ _ _ _ _)
      | (with_reducible exact ih3 _ _ _ _ _ _)
      | (with_reducible exact ih4 _ _ _ _ _ _ _ _ _)
      | (with_reducible exact ih5 _ _ _ _)
      | (with_reducible exact ih6 _ _ _ _ _ _ _)
      | (with_reducible exact ih7 _ _ _ _)
      | (with_reducible exact lockfastlaw11_awake.mono _)
      | (with_reducible exact lockfastref11_Made.mono _ _ _)
      | (with_reducible exact tile_Blocks.mono _ _)
      | (with_reducible exact tile_Logs.mono _ _ _)
      | (with_reducible exact tile_Rows.mono _ _)
      | (with_reducible exact LeO.refl _)
      | (with_reducible exact LeO.none _)
      | (with_reducible refine LeO.ite ?_ ?_)
      | (with_reducible refine LeO.bind ?_ (fun _ => ?_))
      | exact ih0 _ _ _ _ _ _
      | exact ih1 _ _ _ _ _ _ _ _ _ _
      | exact ih2 _ _ _ _ _ _ _ _ _ _
      | exact ih3 _ _ _ _ _ _
      | exact ih4 _ _ _ _ _ _ _ _ _
      | exact ih5 _ _ _ _
      | exact ih6 _ _ _ _ _ _ _
      | exact ih7 _ _ _ _
      | exact lockfastlaw11_awake.mono _
      | exact lockfastref11_Made.mono _ _ _
      | exact tile_Blocks.mono _ _
      | exact tile_Logs.mono _ _ _
      | exact tile_Rows.mono _ _
      | exact LeO.none _
      | refine LeO.ite ?_ ?_
      | refine LeO.bind ?_ (fun _ => ?_)
    · intro y0 y1 y2 y3 y4 y5
      unfold lockfastlaw11_TileWhole.l2
      repeat' first
      | (with_reducible exact ih0 _ _ _ _ _ _)
      | (with_reducible exact ih1 _ _ _ _ _ _ _ _ _ _)
      | (with_reducible exact ih2 _ _ _ _ _ _ _ _ _ _)
      | (with_reducible exact ih3 _ _ _ _ _ _)
      | (with_reducible exact ih4 _ _ _ _ _ _ _ _ _)
      | (with_reducible exact ih5 _ _ _ _)
      | (with_reducible exact ih6 _ _ _ _ _ _ _)
      | (with_reducible exact ih7 _ _ _ _)
      | (with_reducible exact lockfastlaw11_awake.mono _)
      | (with_reducible exact lockfastref11_Made.mono _ _ _)
      | (with_reducible exact tile_Blocks.mono _ _)
      | (with_reducible exact tile_Logs.mono _ _ _)
      | (with_reducible exact tile_Rows.mono _ _)
      | (with_reducible exact LeO.refl _)
      | (with_reducible exact LeO.none _)
      | (with_reducible refine LeO.ite ?_ ?_)
      | (with_reducible refine LeO.bind ?_ (fun _ => ?_))
      | exact ih0 _ _ _ _ _ _
      | exact ih1 _ _ _ _ _ _ _ _ _ _
      | exact ih2 _ _ _ _ _ _ _ _ _ _
      | exact ih3 _ _ _ _ _ _
      | exact ih4 _ _ _ _ _ _ _ _ _
      | exact ih5 _ _ _ _
      | exact ih6 _ _ _ _ _ _ _
      | exact ih7 _ _ _ _
      | exact lockfastlaw11_awake.mono _
      | exact lockfastref11_Made.mono _ _ _
      | exact tile_Blocks.mono _ _
      | exact tile_Logs.mono _ _ _
      | exact tile_Rows.mono _ _
      | exact LeO.none _
      | refine LeO.ite ?_ ?_
      | refine LeO.bind ?_ (fun _ => ?_)
    · intro y0 y1 y2 y3 y4 y5 y6 y7 y8
      unfold lockfastlaw11_TileWhole.l3
      repeat' first
      | (with_reducible exact ih0 _ _ _ _ _ _)
      | (with_reducible exact ih1 _ _ _ _ _ _ _ _ _ _)
      | (with_reducible exact ih2 _ _ _ _ _ _ _ _ _ _)
      | (with_reducible exact ih3 _ _ _ _ _ _)
      | (with_reducible exact ih4 _ _ _ _ _ _ _ _ _)
      | (with_reducible exact ih5 _ _ _ _)
      | (with_reducible exact ih6 _ _ _ _ _ _ _)
      | (with_reducible exact ih7 _ _ _ _)
      | (with_reducible exact lockfastlaw11_awake.mono _)
      | (with_reducible exact lockfastref11_Made.mono _ _ _)
      | (with_reducible exact tile_Blocks.mono _ _)
      | (with_reducible exact tile_Logs.mono _ _ _)
      | (with_reducible exact tile_Rows.mono _ _)
      | (with_reducible exact LeO.refl _)
      | (with_reducible exact LeO.none _)
      | (with_reducible refine LeO.ite ?_ ?_)
      | (with_reducible refine LeO.bind ?_ (fun _ => ?_))
      | exact ih0 _ _ _ _ _ _
      | exact ih1 _ _ _ _ _ _ _ _ _ _
      | exact ih2 _ _ _ _ _ _ _ _ _ _
      | exact ih3 _ _ _ _ _ _
      | exact ih4 _ _ _ _ _ _ _ _ _
      | exact ih5 _ _ _ _
      | exact ih6 _ _ _ _ _ _ _
      | exact ih7 _ _ _ _
      | exact lockfastlaw11_awake.mono _
      | exact lockfastref11_Made.mono _ _ _
      | exact tile_Blocks.mono _ _
      | exact tile_Logs.mono _ _ _
      | exact tile_Rows.mono _ _
      | exact LeO.none _
      | refine LeO.ite ?_ ?_
      | refine LeO.bind ?_ (fun _ => ?_)
    · intro y0 y1 y2 y3
      unfold lockfastlaw11_TileWhole.l4
      repeat' first
      | (with_reducible exact ih0 _ _ _ _ _ _)
      | (with_reducible exact ih1 _ _ _ _ _ _ _ _ _ _)
      | (with_reducible exact ih2 _ _ _ _ _ _ _ _ _ _)
      | (with_reducible exact ih3 _ _ _ _ _ _)
      | (with_reducible exact ih4 _ _ _ _ _ _ _ _ _)
      | (with_reducible exact ih5 _ _ _ _)
      | (with_reducible exact ih6 _ _ _ _ _ _ _)
      | (with_reducible exact ih7 _ _ _ _)
      | (with_reducible exact lockfastlaw11_awake.mono _)
      | (with_reducible exact lockfastref11_Made.mono _ _ _)
      | (with_reducible exact tile_Blocks.mono _ _)
      | (with_reducible exact tile_Logs.mono _ _ _)
      | (with_reducible exact tile_Rows.mono _ _)
      | (with_reducible exact LeO.refl _)
      | (with_reducible exact LeO.none _)
      | (with_reducible refine LeO.ite ?_ ?_)
      | (with_reducible refine LeO.bind ?_ (fun _ => ?_))
      | exact ih0 _ _ _ _ _ _
      | exact ih1 _ _ _ _ _ _ _ _ _ _
      | exact ih2 _ _ _ _ _ _ _ _ _ _
      | exact ih3 _ _ _ _ _ _
      | exact ih4 _ _ _ _ _ _ _ _ _
      | exact ih5 _ _ _ _
      | exact ih6 _ _ _ _ _ _ _
      | exact ih7 _ _ _ _
      | exact lockfastlaw11_awake.mono _
      | exact lockfastref11_Made.mono _ _ _
      | exact tile_Blocks.mono _ _
      | exact tile_Logs.mono _ _ _
      | exact tile_Rows.mono _ _
      | exact LeO.none _
      | refine LeO.ite ?_ ?_
      | refine LeO.bind ?_ (fun _ => ?_)
    · intro y0 y1 y2 y3 y4 y5 y6
      unfold lockfastlaw11_TileWhole.l5
      repeat' first
      | (with_reducible exact ih0 _ _ _ _ _ _)
      | (with_reducible exact ih1 _ _ _ _ _ _ _ _ _ _)
      | (with_reducible exact ih2 _ _ _ _ _ _ _ _ _ _)
      | (with_reducible exact ih3 _ _ _ _ _ _)
      | (with_reducible exact ih4 _ _ _ _ _ _ _ _ _)
      | (with_reducible exact ih5 _ _ _ _)
      | (with_reducible exact ih6 _ _ _ _ _ _ _)
      | (with_reducible exact ih7 _ _ _ _)
      | (with_reducible exact lockfastlaw11_awake.mono _)
      | (with_reducible exact lockfastref11_Made.mono _ _ _)
      | (with_reducible exact tile_Blocks.mono _ _)
      | (with_reducible exact tile_Logs.mono _ _ _)
      | (with_reducible exact tile_Rows.mono _ _)
      | (with_reducible exact LeO.refl _)
      | (with_reducible exact LeO.none _)
      | (with_reducible refine LeO.ite ?_ ?_)
      | (with_reducible refine LeO.bind ?_ (fun _ => ?_))
      | exact ih0 _ _ _ _ _ _
      | exact ih1 _ _ _ _ _ _ _ _ _ _
      | exact ih2 _ _ _ _ _ _ _ _ _ _
      | exact ih3 _ _ _ _ _ _
      | exact ih4 _ _ _ _ _ _ _ _ _
      | exact ih5 _ _ _ _
      | exact ih6 _ _ _ _ _ _ _
      | exact ih7 _ _ _ _
      | exact lockfastlaw11_awake.mono _
      | exact lockfastref11_Made.mono _ _ _
      | exact tile_Blocks.mono _ _
      | exact tile_Logs.mono _ _ _
      | exact tile_Rows.mono _ _
      | exact LeO.none _
      | refine LeO.ite ?_ ?_
      | refine LeO.bind ?_ (fun _ => ?_)
    · intro y0 y1 y2 y3
      unfold lockfastlaw11_TileWhole.l6
      repeat' first
      | (with_reducible exact ih0 _ _ _ _ _ _)
      | (with_reducible exact ih1 _ _ _ _ _ _ _ _ _ _)
      | (with_reducible exact ih2 _ _ _ _ _ _ _ _ _ _)
      | (with_reducible exact ih3 _ _ _ _ _ _)
      | (with_reducible exact ih4 _ _ _ _ _ _ _ _ _)
      | (with_reducible exact ih5 _ _ _ _)
      | (with_reducible exact ih6 _ _ _ _ _ _ _)
      | (with_reducible exact ih7 _ _ _ _)
      | (with_reducible exact lockfastlaw11_awake.mono _)
      | (with_reducible exact lockfastref11_Made.mono _ _ _)
      | (with_reducible exact tile_Blocks.mono _ _)
      | (with_reducible exact tile_Logs.mono _ _ _)
      | (with_reducible exact tile_Rows.mono _ _)
      | (with_reducible exact LeO.refl _)
      | (with_reducible exact LeO.none _)
      | (with_reducible refine LeO.ite ?_ ?_)
      | (with_reducible refine LeO.bind ?_ (fun _ => ?_))
      | exact ih0 _ _ _ _ _ _
      | exact ih1 _ _ _ _ _ _ _ _ _ _
      | exact ih2 _ _ _ _ _ _ _ _ _ _
      | exact ih3 _ _ _ _ _ _
      | exact ih4 _ _ _ _ _ _ _ _ _
      | exact ih5 _ _ _ _
      | exact ih6 _ _ _ _ _ _ _
      | exact ih7 _ _ _ _
      | exact lockfastlaw11_awake.mono _
      | exact lockfastref11_Made.mono _ _ _
      | exact tile_Blocks.mono _ _
      | exact tile_Logs.mono _ _ _
      | exact tile_Rows.mono _ _
      | exact LeO.none _
      | refine LeO.ite ?_ ?_
      | refine LeO.bind ?_ (fun _ => ?_)
theorem lockfastlaw11_TileWhole.mono : ∀ a0 k, LeO (lockfastlaw11_TileWhole.f k a0) (lockfastlaw11_TileWhole.f (k + 1) a0) := by
  intro a0 k
  obtain ⟨ih0, ih1, ih2, ih3, ih4, ih5, ih6, ih7⟩ := lockfastlaw11_TileWhole.mono_l k
  unfold lockfastlaw11_TileWhole.f
  repeat' first
      | (with_reducible exact ih0 _ _ _ _ _ _)
      | (with_reducible exact ih1 _ _ _ _ _ _ _ _ _ _)
      | (with_reducible exact ih2 _ _ _ _ _ _ _ _ _ _)
      | (with_reducible exact ih3 _ _ _ _ _ _)
      | (with_reducible exact ih4 _ _ _ _ _ _ _ _ _)
      | (with_reducible exact ih5 _ _ _ _)
      | (with_reducible exact ih6 _ _ _ _ _ _ _)
      | (with_reducible exact ih7 _ _ _ _)
      | (with_reducible exact lockfastlaw11_awake.mono _)
      | (with_reducible exact lockfastref11_Made.mono _ _ _)
      | (with_reducible exact tile_Blocks.mono _ _)
      | (with_reducible exact tile_Logs.mono _ _ _)
      | (with_reducible exact tile_Rows.mono _ _)
      | (with_reducible exact LeO.refl _)
      | (with_reducible exact LeO.none _)
      | (with_reducible refine LeO.ite ?_ ?_)
      | (with_reducible refine LeO.bind ?_ (fun _ => ?_))
      | exact ih0 _ _ _ _ _ _
      | exact ih1 _ _ _ _ _ _ _ _ _ _
      | exact ih2 _ _ _ _ _ _ _ _ _ _
      | exact ih3 _ _ _ _ _ _
      | exact ih4 _ _ _ _ _ _ _ _ _
      | exact ih5 _ _ _ _
      | exact ih6 _ _ _ _ _ _ _
      | exact ih7 _ _ _ _
      | exact lockfastlaw11_awake.mono _
      | exact lockfastref11_Made.mono _ _ _
      | exact tile_Blocks.mono _ _
      | exact tile_Logs.mono _ _ _
      | exact tile_Rows.mono _ _
      | exact LeO.none _
      | refine LeO.ite ?_ ?_
      | refine LeO.bind ?_ (fun _ => ?_)
def lockfastlaw11_TileWhole.T12 : Bool × List (List Nat × List Nat) := (true, [([], []), ([], []), ([1], [1]), ([0, 2], [0, 2]), ([3], [3]), ([], []), ([5], [5]), ([6], [6]), ([4, 7], [4, 7]), ([8], [8]), ([9], [9]), ([10], [10]), ([11], [11]), ([12, 11], [11, 12]), ([13, 11], [11, 13]), ([11], [11]), ([15, 11], [11, 15]), ([14, 16, 11], [11, 14, 16]), ([17, 11], [11, 17]), ([11, 18], [11, 18])])
def lockfastlaw11_TileWhole.B12 : List Nat := [0, 0, 2, 7, 15, 0, 32, 96, 255, 511, 1023, 2047, 4095, 8191, 16383, 4095, 36863, 131071, 262143, 524287]
theorem lockfastlaw11_TileWhole.tab12 : rtab .any (opsOf Tryd.f13 12) = lockfastlaw11_TileWhole.T12 := by kernel_rfl
theorem lockfastlaw11_TileWhole.bits12 : waitsOk lockfastlaw11_TileWhole.T12.2 lockfastlaw11_TileWhole.B12 = true := by kernel_rfl
def lockfastlaw11_TileWhole.T14 : Bool × List (List Nat × List Nat) := (true, [([], []), ([], []), ([1], [1]), ([], []), ([], []), ([4], [4]), ([3, 5], [3, 5]), ([6], [6]), ([7], [7]), ([], []), ([9], [9]), ([10], [10]), ([11], [11]), ([8, 12], [8, 12]), ([0, 2, 0, 1, 2, 3, 4, 5, 6, 7, 8, 9, 10, 11, 12, 13], [0, 2]), ([14, 13, 0, 1, 2, 3, 4, 5, 6, 7, 8, 9, 10, 11, 12, 13], [13, 14])])
def lockfastlaw11_TileWhole.B14 : List Nat := [0, 0, 2, 0, 0, 16, 56, 120, 248, 0, 512, 1536, 3584, 8184, 16383, 32767]
theorem lockfastlaw11_TileWhole.tab14 : rtab .any (opsOf Tryd.f13 14) = lockfastlaw11_TileWhole.T14 := by kernel_rfl
theorem lockfastlaw11_TileWhole.bits14 : waitsOk lockfastlaw11_TileWhole.T14.2 lockfastlaw11_TileWhole.B14 = true := by kernel_rfl
set_option maxHeartbeats 8000000 in
set_option maxRecDepth 100000 in
theorem lockfastlaw11_TileWhole.calls (k : Nat) (A0 : Option Addr) (c0 : Nat) (l0 : List Int) (r : Bool) (w : World) (hr0 : Kd.C (Kd.int .u16) w A0 l0.length l0) (hc0 : l0.length ≤ c0) (h : lockfastlaw11_TileWhole.f k l0 = some r) :
    CallsG 13 #[.slice A0 l0.length c0] w fun e w' => e = .returned (.bool r) ∧ Below w.heap.size w w' := by
  intro HG0_
  have HG := Aside0.mk HG0_
  clear HG0_
  have hu42 := Tryd.underlying42
  have hu36 := Tryd.underlying36
  have HR0 := Aside0.mk hr0
  have HC0 := Aside0.mk hc0
  clear hr0 hc0
  have HB := Aside0.mk (Below.refl w.heap.size w)
  have H : ((lockfastlaw11_awake.f k).bind fun t218 => (if (l0.length : Int) > 60 then (some t218) else ((lockfastref11_Made.f k l0 40).bind fun t219 => (if 0 ≤ (wrap64 ((t219.length : Int) + 1)) then (if (wrap64 ((t219.length : Int) + 1) : Int).toNat ≤ 35184372088832 then ((tile_Blocks.f k t219).bind fun t225 => (lockfastlaw11_TileWhole.l0 k t218 t219 (List.replicate (wrap64 ((t219.length : Int) + 1) : Int).toNat 0) t225 (t225.length : Int) 0)) else (none)) else (none))))) = some r := h
  clear h
  replace H := Option.bind_eq_some_iff.mp H
  obtain ⟨t218, A20, H⟩ := H
  replace H : (if (l0.length : Int) > 60 then (some t218) else ((lockfastref11_Made.f k l0 40).bind fun t219 => (if 0 ≤ (wrap64 ((t219.length : Int) + 1)) then (if (wrap64 ((t219.length : Int) + 1) : Int).toNat ≤ 35184372088832 then ((tile_Blocks.f k t219).bind fun t225 => (lockfastlaw11_TileWhole.l0 k t218 t219 (List.replicate (wrap64 ((t219.length : Int) + 1) : Int).toNat 0) t225 (t225.length : Int) 0)) else (none)) else (none)))) = some r := H
  have A2 := Aside0.mk A20
  clear A20
  by_cases c3 : (l0.length : Int) > 60
  · rw [if_pos c3] at H
    have c3b0 : decide (60 < (l0.length : Int)) = true := decide_eq_true c3
    have c3b1 : decide (60 < l0.length) = true := decide_eq_true (by omega)
    clear c3
    obtain rfl := Option.some.inj H
    go_enter Tryd.func13, Tryd.ntmps13
    go_wp2_with (first | ((with_reducible refine gate_callee (f := 15) rfl ?_); refine goesL_ (some 16) rfl rfl Tryd.func15 (by kernel_rfl) rfl #[] rfl (by (try simp only [List.map_toArray, List.map_cons, List.map_nil]); first | done | rfl | (simp only [List.length_drop, List.length_take]; rfl)) ?_; (with_reducible refine (lockfastlaw11_awake.calls k  t218 _ A2.out).mono ?_); rintro e w4 ⟨rfl, hb⟩; refine ⟨_, rfl, ?_⟩; have n0_ := Aside0.mk (below_step (by repeat (first | (with_reducible first | exact HB.out | apply below_alloc | apply pw_below_drewN | apply below_drew1) | exact HB.out)) hb); clear HB; have HB := n0_; clear n0_; (try clear hb); (try clear hb2); (try clear hk); (try clear hi)))
    go_ret
    exact ⟨by first | rfl | (simp [errW_none, errW_some] <;> rfl) | (simp [*, errW_none, errW_some] <;> rfl), by repeat (first | (with_reducible first | exact HB.out | apply below_alloc | apply pw_below_drewN | apply below_drew1) | exact HB.out)⟩
  · rw [if_neg c3] at H
    have c3b0 : decide (60 < (l0.length : Int)) = false := decide_eq_false c3
    have c3b1 : decide (60 < l0.length) = false := decide_eq_false (by omega)
    clear c3
    replace H := Option.bind_eq_some_iff.mp H
    obtain ⟨t219, A50, H⟩ := H
    replace H : (if 0 ≤ (wrap64 ((t219.length : Int) + 1)) then (if (wrap64 ((t219.length : Int) + 1) : Int).toNat ≤ 35184372088832 then ((tile_Blocks.f k t219).bind fun t225 => (lockfastlaw11_TileWhole.l0 k t218 t219 (List.replicate (wrap64 ((t219.length : Int) + 1) : Int).toNat 0) t225 (t225.length : Int) 0)) else (none)) else (none)) = some r := H
    have A5 := Aside0.mk A50
    clear A50
    obtain ⟨ji6, hji6⟩ : ∃ j_ : Int, (wrap64 ((t219.length : Int) + 1)) = j_ := ⟨_, rfl⟩
    replace H : (if 0 ≤ (ji6) then (if (ji6 : Int).toNat ≤ 35184372088832 then ((tile_Blocks.f k t219).bind fun t225 => (lockfastlaw11_TileWhole.l0 k t218 t219 (List.replicate (ji6 : Int).toNat 0) t225 (t225.length : Int) 0)) else (none)) else (none)) = some r := by first | (rw [hji6] at H; exact H) | (simp only [hji6] at H ⊢; exact H)
    (try rw [hji6] at A2)
    (try rw [hji6] at A5)
    have hji6w : (IntKind.i64.wrap ((t219.length : Int) + 1)) = ji6 := (i64_w _).trans hji6
    by_cases c7 : 0 ≤ (ji6)
    · rw [if_pos c7] at H
      have c7b0 := eq_true c7
      have c7b1 : decide (0 ≤ (ji6)) = true := decide_eq_true c7
      clear c7
      by_cases c8 : (ji6 : Int).toNat ≤ 35184372088832
      · rw [if_pos c8] at H
        have c8b0 := eq_true c8
        have c8b1 : decide ((ji6 : Int).toNat ≤ 35184372088832) = true := decide_eq_true c8
        clear c8
        obtain ⟨y222, hy222⟩ : ∃ y_ : List Int, y_ = (List.replicate (ji6 : Int).toNat 0) := ⟨_, rfl⟩
        replace H : ((tile_Blocks.f k t219).bind fun t225 => (lockfastlaw11_TileWhole.l0 k t218 t219 y222 t225 (t225.length : Int) 0)) = some r := by first | (rw [hy222]; with_reducible exact H) | (have H2_ := (Option.bind_some _ _).symm.trans H; rw [hy222]; with_reducible exact H2_) | (have H2_ := (Option.bind_some _ _).symm.trans H; with_reducible exact H2_) | with_reducible exact H | (rw [hy222]; exact H) | exact H
        have Ny222 := Aside0.mk hy222
        clear hy222
        replace H := Option.bind_eq_some_iff.mp H
        obtain ⟨t225, A90, H⟩ := H
        replace H : (lockfastlaw11_TileWhole.l0 k t218 t219 y222 t225 (t225.length : Int) 0) = some r := H
        have A9 := Aside0.mk A90
        clear A90
        have H' := Aside0.mk H
        clear H
        go_enter Tryd.func13, Tryd.ntmps13
        go_wp2_with (first | ((with_reducible refine gate_callee (f := 15) rfl ?_); refine goesL_ (some 16) rfl rfl Tryd.func15 (by kernel_rfl) rfl #[] rfl (by (try simp only [List.map_toArray, List.map_cons, List.map_nil]); first | done | rfl | (simp only [List.length_drop, List.length_take]; rfl)) ?_; (with_reducible refine (lockfastlaw11_awake.calls k  t218 _ A2.out).mono ?_); rintro e w10 ⟨rfl, hb⟩; refine ⟨_, rfl, ?_⟩; have n0_ := Aside0.mk (below_step (by repeat (first | (with_reducible first | exact HB.out | apply below_alloc | apply pw_below_drewN | apply below_drew1) | exact HB.out)) hb); clear HB; have HB := n0_; clear n0_; (try clear hb); (try clear hb2); (try clear hk); (try clear hi)) | ((with_reducible refine gate_callee (f := 20) rfl ?_); refine goesL_ (some 22) rfl rfl Tryd.func20 (by kernel_rfl) rfl #[.slice A0 l0.length c0, .int .i64 40] rfl (by (try simp only [List.map_toArray, List.map_cons, List.map_nil]); first | done | rfl | (simp only [List.length_drop, List.length_take]; rfl)) ?_; (with_reducible refine (lockfastref11_Made.calls k _ _ l0 40 t219 _ ?side1 ?side2 A5.out).mono ?_); (case side1 => repeat (first | exact (Kd.C_below HR0.out HB.out) | (with_reducible refine Kd.C_alloc ?_ _) | (with_reducible refine Kd.C_drewN ?_ _) | (with_reducible refine Kd.C_drew ?_))); (case side2 => exact HC0.out); rintro e w11 ⟨v220, rfl, ho0, hb⟩; refine ⟨_, rfl, ?_⟩; have n0_ := Aside0.mk (Kd.R_lower ho0 (below_size (by repeat (first | (with_reducible first | exact HB.out | apply below_alloc | apply pw_below_drewN | apply below_drew1) | exact HB.out)))); have n1_ := Aside0.mk (below_step (by repeat (first | (with_reducible first | exact HB.out | apply below_alloc | apply pw_below_drewN | apply below_drew1) | exact HB.out)) hb); clear HB; have HO221 := n0_; have HB := n1_; clear n0_ n1_; (try clear hb); (try clear hb2); (try clear hk); (try clear hi); (try clear ho0); obtain ⟨Ao12, co12, eo12⟩ := Kd.R_slice HO221.out; subst eo12) | ((with_reducible refine gate_dst (N := 26) rfl ?_); (try (refine gate_guard (by rfl) ?_; dsimp only)); refine Kd.R_make (Kd.int .i64) _ 3 rfl (N := 26) rfl 77 _ _ rfl ji6 rfl rfl Tryd.underlying77 (.int .i64 0) 8 info3 rfl (by decide) (by omega) 0 (ok := fun _ => True) (okp := fun _ => True) rfl (fun _ hk => hk) trivial (of_decide_eq_true (by first | (with_reducible assumption) | assumption)) (Nat.le_trans (Nat.mul_le_mul_right _ (of_decide_eq_true (by first | (with_reducible assumption) | assumption) : ji6.toNat ≤ 35184372088832)) (by omega)) (Below.refl _ _) (Nat.le_refl _) ?_; intro v223 w13 ho14 hb hg_ hnew_; clear hg_ hnew_; (first | rw [← Ny222.out] at ho14 | (simp only [Int.reduceToNat] at ho14; rw [← Ny222.out] at ho14)); have n0_ := Aside0.mk (Kd.R_below (by (with_reducible repeat (first | apply Kd.R_alloc | apply Kd.R_drewN | apply Kd.R_drew)); exact HO221.out) hb); have n1_ := Aside0.mk (Kd.R_lower ho14 (below_size (by repeat (first | (with_reducible first | exact HB.out | apply below_alloc | apply pw_below_drewN | apply below_drew1) | exact HB.out)))); have n2_ := Aside0.mk (below_step (by repeat (first | (with_reducible first | exact HB.out | apply below_alloc | apply pw_below_drewN | apply below_drew1) | exact HB.out)) hb); clear HO221; clear HB; have HO221 := n0_; have HO224 := n1_; have HB := n2_; clear n0_ n1_ n2_; clear hb ho14) | ((with_reducible refine gate_callee (f := 23) rfl ?_); refine goesL_ (some 28) rfl rfl Tryd.func23 (by kernel_rfl) rfl #[.slice Ao12 t219.length co12] rfl (by (try simp only [List.map_toArray, List.map_cons, List.map_nil]); first | done | rfl | (simp only [List.length_drop, List.length_take]; rfl)) ?_; (with_reducible refine (tile_Blocks.calls k _ _ t219 t225 _ ?side1 ?side2 A9.out).mono ?_); (case side1 => repeat (first | exact (Kd.R_reads' HO221.out).2.2 | (with_reducible refine Kd.C_alloc ?_ _) | (with_reducible refine Kd.C_drewN ?_ _) | (with_reducible refine Kd.C_drew ?_))); (case side2 => exact (Kd.R_reads' HO221.out).2.1); rintro e w15 ⟨v226, rfl, ho0, hb⟩; refine ⟨_, rfl, ?_⟩; have n0_ := Aside0.mk (Kd.R_below (by (with_reducible repeat (first | apply Kd.R_alloc | apply Kd.R_drewN | apply Kd.R_drew)); exact HO221.out) hb); have n1_ := Aside0.mk (Kd.R_below (by (with_reducible repeat (first | apply Kd.R_alloc | apply Kd.R_drewN | apply Kd.R_drew)); exact HO224.out) hb); have n2_ := Aside0.mk (Kd.R_lower ho0 (below_size (by repeat (first | (with_reducible first | exact HB.out | apply below_alloc | apply pw_below_drewN | apply below_drew1) | exact HB.out)))); have n3_ := Aside0.mk (below_step (by repeat (first | (with_reducible first | exact HB.out | apply below_alloc | apply pw_below_drewN | apply below_drew1) | exact HB.out)) hb); clear HO221; clear HO224; clear HB; have HO221 := n0_; have HO224 := n1_; have HO227 := n2_; have HB := n3_; clear n0_ n1_ n2_ n3_; (try clear hb); (try clear hb2); (try clear hk); (try clear hi); (try clear ho0); obtain ⟨Ao16, co16, eo16⟩ := Kd.R_slice HO227.out; subst eo16))
        go_loopg [30] k (fun kq v30 w' => ∃ (x5_1 : List Int) (x30_1 : Int), v30 = .int .i64 x30_1 ∧ Aside0 (lockfastlaw11_TileWhole.l0 kq t218 t219 x5_1 t225 (t225.length : Int) x30_1 = some r) ∧ Aside0 (kq ≤ k) ∧ Aside0 (Kd.R (Kd.int .u64) 27 w' w.heap.size (fun _ => True) (.slice Ao12 t219.length co12) t219) ∧ Aside0 (Kd.R (Kd.int .i64) 3 w' w.heap.size (fun _ => True) v223 x5_1) ∧ Aside0 (Kd.R k42 42 w' w.heap.size (fun _ => True) (.slice Ao16 t225.length co16) t225) ∧ Aside0 (Below w.heap.size w w'))
        case atStart => exact ⟨(y222), (0), (by first | rfl | (simp; done) | (simp [*]; done)), H', ⟨Nat.le_refl _⟩, ⟨by (with_reducible repeat (first | apply Kd.R_alloc | apply Kd.R_drewN | apply Kd.R_drew)); exact HO221.out⟩, ⟨by (with_reducible repeat (first | apply Kd.R_alloc | apply Kd.R_drewN | apply Kd.R_drew)); exact HO224.out⟩, ⟨by (with_reducible repeat (first | apply Kd.R_alloc | apply Kd.R_drewN | apply Kd.R_drew)); exact HO227.out⟩, ⟨by repeat (first | (with_reducible first | exact HB.out | apply below_alloc | apply pw_below_drewN | apply below_drew1) | exact HB.out)⟩⟩
        case round =>
          clear H'
          try clear c1
          try clear c2
          try clear p2
          try clear c3
          try clear c3b0
          try clear c3b1
          try clear p6
          try clear c7
          try clear c7b0
          try clear c7b1
          try clear c8
          try clear c8b0
          try clear c8b1
          try clear c13
          try clear c15
          obtain ⟨x5_1, x30_1, rfl, HA, HK1, HO_4, HO_5, HO_28, HB⟩ := hrel
          cases gk with
          | zero => exact absurd HA.out (by simp [lockfastlaw11_TileWhole.l0])
          | succ k1 =>
            have H := HA.out
            clear HA
            simp only [lockfastlaw11_TileWhole.l0] at H
            by_cases c17 : x30_1 < (t225.length : Int)
            · rw [if_pos c17] at H
              have c17b0 : decide (x30_1 < (t225.length : Int)) = true := decide_eq_true c17
              clear c17
              by_cases c18 : 0 ≤ x30_1
              · rw [if_pos c18] at H
                have c18b0 : decide (0 ≤ x30_1) = true := decide_eq_true c18
                clear c18
                by_cases c19 : x30_1 < (t225.length : Int)
                · rw [if_pos c19] at H
                  have c19b0 : decide (x30_1 < (t225.length : Int)) = true := decide_eq_true c19
                  clear c19
                  have HC20 := Aside0.mk H
                  clear H
                  have p228 : 0 ≤ (x30_1 : Int) := of_decide_eq_true (by first | (with_reducible assumption) | assumption)
                  have q228 : x30_1 < (t225.length : Int) := of_decide_eq_true (by first | (with_reducible assumption) | assumption)
                  obtain ⟨ad228, e228, hx228_0, hx228_1, hx228_2⟩ := at_T42 (Kd.R_reads' HO_28.out).2.2 x30_1 p228 q228
                  cases e228
                  replace p228 := eq_true p228
                  replace q228 := eq_true q228
                  go_upto_region 9 with (first | ((with_reducible refine gate_dst (N := 7) rfl ?_); (try (refine gate_guard (by rfl) ?_; dsimp only)); refine box_event ?hg (N := 7) ?hd (cs := #[.int .i64 0, .int .i64 0, .int .i64 0]) (t := 42) ?hr ?_; (case hd => rfl); (case hg => rfl); (case hr => first | (go_simp; done) | (go_simp; rfl)); intro gb229 hg w21 hbox hb; have n0_ := Aside0.mk (Kd.R_below (by (with_reducible repeat (first | apply Kd.R_alloc | apply Kd.R_drewN | apply Kd.R_drew)); exact HO_4.out) hb); have n1_ := Aside0.mk (Kd.R_below (by (with_reducible repeat (first | apply Kd.R_alloc | apply Kd.R_drewN | apply Kd.R_drew)); exact HO_5.out) hb); have n2_ := Aside0.mk (Kd.R_below (Kd.R_elderB (by (with_reducible repeat (first | apply Kd.R_alloc | apply Kd.R_drewN | apply Kd.R_drew)); exact HO_28.out) gb229 (Nat.le_of_eq hg.symm)) hb); have n3_ := Aside0.mk (below_step (by repeat (first | (with_reducible first | exact HB.out | apply below_alloc | apply pw_below_drewN | apply below_drew1) | exact HB.out)) hb); have n4_ := Aside0.mk (hbox); have n5_ := Aside0.mk ((by rw [hg]; exact (below_size (by repeat (first | (with_reducible first | exact HB.out | apply below_alloc | apply pw_below_drewN | apply below_drew1) | exact HB.out))) : w.heap.size ≤ gb229)); have n6_ := Aside0.mk ((by rw [hg]; exact (below_size (by repeat (first | (with_reducible first | exact HB.out | apply below_alloc | apply pw_below_drewN | apply below_drew1) | exact HB.out))) : w.heap.size ≤ gb229)); clear HO_4; clear HO_5; clear HO_28; clear HB; have HO_4 := n0_; have HO_5 := n1_; have HO_28 := n2_; have HB := n3_; have BK229 := n4_; have GW229 := n5_; have GE229 := n6_; clear n0_ n1_ n2_ n3_ n4_ n5_ n6_; clear hb hbox hg; have hcz22_0 : w21.cell? ⟨gb229, 0, none⟩ = some (.int .i64 0) := (blk_cell BK229.out 0).trans rfl; have hcz22_1 : w21.cell? ⟨gb229, 1, none⟩ = some (.int .i64 0) := (blk_cell BK229.out 1).trans rfl; have hcz22_2 : w21.cell? ⟨gb229, 2, none⟩ = some (.int .i64 0) := (blk_cell BK229.out 2).trans rfl; have hfz22_0 := blk_frozen BK229.out 0; have hfz22_1 := blk_frozen BK229.out 1; have hfz22_2 := blk_frozen BK229.out 2))
                  (try simp only [Act.put, List.setIfInBounds_toArray, List.set_cons_zero, List.set_cons_succ])
                  go_cut [53] (fun v53 wc => ∃ (kq : Nat) (x53_19 : Bool), v53 = .bool x53_19 ∧ Aside0 (lockfastlaw11_TileWhole.j1 kq t218 t219 x5_1 t225 (t225.length : Int) x30_1 x53_19 ((rd_T42 t225 x30_1).f0) ((rd_T42 t225 x30_1).f1) ((rd_T42 t225 x30_1).f2) = some r) ∧ Aside0 (kq ≤ k1) ∧ Aside0 (Kd.R (Kd.int .u64) 27 wc w.heap.size (fun _ => True) (.slice Ao12 t219.length co12) t219) ∧ Aside0 (Kd.R (Kd.int .i64) 3 wc w.heap.size (fun _ => True) v223 x5_1) ∧ Aside0 (Kd.R k42 42 wc w.heap.size (fun k_ => k_ ≠ gb229) (.slice (some ad228) t225.length co16) t225) ∧ Aside0 (wc.heap[gb229]? = some (.cells #[.int .i64 ((rd_T42 t225 x30_1).f0), .int .i64 ((rd_T42 t225 x30_1).f1), .int .i64 ((rd_T42 t225 x30_1).f2)] 42 (0, 0))) ∧ Aside0 (Below w.heap.size w wc))
                  case first =>
                    have H := HC20.out
                    clear HC20
                    by_cases c23 : ((rd_T42 t225 x30_1).f0) < 0
                    · rw [if_pos c23] at H
                      have c23b0 : decide (((rd_T42 t225 x30_1).f0) < 0) = true := decide_eq_true c23
                      clear c23
                      (first | rw [c23b0] | (simp only [i64_w, i32_w]; rw [c23b0]) | skip)
                      have H' := Aside0.mk H
                      clear H
                      have hcz24_0 : w21.cell? ⟨gb229, 0, none⟩ = some (.int .i64 0) := (blk_cell BK229.out 0).trans rfl
                      have hcz24_1 : w21.cell? ⟨gb229, 1, none⟩ = some (.int .i64 0) := (blk_cell BK229.out 1).trans rfl
                      have hcz24_2 : w21.cell? ⟨gb229, 2, none⟩ = some (.int .i64 0) := (blk_cell BK229.out 2).trans rfl
                      have hfz24_0 := blk_frozen BK229.out 0
                      have hfz24_1 := blk_frozen BK229.out 1
                      have hfz24_2 := blk_frozen BK229.out 2
                      go_wp2
                      go_meet
                      case rel => exact ⟨_, (true), (by first | rfl | (simp; done) | (simp [*]; done)), H', ⟨by have := HK1.out; first | omega | exact Nat.le_refl _⟩, ⟨by (with_reducible repeat (first | apply Kd.R_alloc | apply Kd.R_drewN | apply Kd.R_drew)); exact Kd.R_mono (Kd.R_far (p := ⟨gb229, 2, none⟩) (Kd.R_far (p := ⟨gb229, 1, none⟩) (Kd.R_far (p := ⟨gb229, 0, none⟩) (Kd.R_types HO_4.out BK229.out (by decide)) (fun _ hk => hk.2) (.int .i64 ((rd_T42 t225 x30_1).f0))) (fun _ hk => hk.2) (.int .i64 ((rd_T42 t225 x30_1).f1))) (fun _ hk => hk.2) (.int .i64 ((rd_T42 t225 x30_1).f2))) (fun _ hk => trivial)⟩, ⟨by (with_reducible repeat (first | apply Kd.R_alloc | apply Kd.R_drewN | apply Kd.R_drew)); exact Kd.R_mono (Kd.R_far (p := ⟨gb229, 2, none⟩) (Kd.R_far (p := ⟨gb229, 1, none⟩) (Kd.R_far (p := ⟨gb229, 0, none⟩) (Kd.R_types HO_5.out BK229.out (by decide)) (fun _ hk => hk.2) (.int .i64 ((rd_T42 t225 x30_1).f0))) (fun _ hk => hk.2) (.int .i64 ((rd_T42 t225 x30_1).f1))) (fun _ hk => hk.2) (.int .i64 ((rd_T42 t225 x30_1).f2))) (fun _ hk => trivial)⟩, ⟨by (with_reducible repeat (first | apply Kd.R_alloc | apply Kd.R_drewN | apply Kd.R_drew)); exact Kd.R_mono (Kd.R_far (p := ⟨gb229, 2, none⟩) (Kd.R_far (p := ⟨gb229, 1, none⟩) (Kd.R_far (p := ⟨gb229, 0, none⟩) (Kd.R_mono HO_28.out (fun k_ hk => (⟨hk, hk.2⟩ : _ ∧ k_ ≠ gb229))) (fun _ hk => hk.2) (.int .i64 ((rd_T42 t225 x30_1).f0))) (fun _ hk => hk.2) (.int .i64 ((rd_T42 t225 x30_1).f1))) (fun _ hk => hk.2) (.int .i64 ((rd_T42 t225 x30_1).f2))) (fun _ hk => hk.1.2)⟩, ⟨by (with_reducible repeat (first | refine blk_drewN ?_ _ | refine blk_drew ?_ | refine blk_alloc ?_ _)); refine blk_put (cs := #[.int .i64 ((rd_T42 t225 x30_1).f0), .int .i64 ((rd_T42 t225 x30_1).f1), .int .i64 0]) ?_ 2 _ rfl; (with_reducible repeat (first | refine blk_drewN ?_ _ | refine blk_drew ?_ | refine blk_alloc ?_ _)); refine blk_put (cs := #[.int .i64 ((rd_T42 t225 x30_1).f0), .int .i64 0, .int .i64 0]) ?_ 1 _ rfl; (with_reducible repeat (first | refine blk_drewN ?_ _ | refine blk_drew ?_ | refine blk_alloc ?_ _)); refine blk_put (cs := #[.int .i64 0, .int .i64 0, .int .i64 0]) ?_ 0 _ rfl; (with_reducible repeat (first | refine blk_drewN ?_ _ | refine blk_drew ?_ | refine blk_alloc ?_ _)); exact BK229.out⟩, ⟨by repeat (first | (with_reducible first | exact HB.out | apply below_alloc | apply pw_below_drewN | apply below_drew1 | refine below_set ?_ GE229.out) | exact HB.out)⟩⟩
                    · rw [if_neg c23] at H
                      have c23b0 : decide (((rd_T42 t225 x30_1).f0) < 0) = false := decide_eq_false c23
                      clear c23
                      (first | rw [c23b0] | (simp only [i64_w, i32_w]; rw [c23b0]) | skip)
                      by_cases c25 : ((rd_T42 t225 x30_1).f0) ≥ (t219.length : Int)
                      · rw [if_pos c25] at H
                        have c25b0 : decide ((t219.length : Int) ≤ ((rd_T42 t225 x30_1).f0)) = true := decide_eq_true c25
                        clear c25
                        have H' := Aside0.mk H
                        clear H
                        have hcz26_0 : w21.cell? ⟨gb229, 0, none⟩ = some (.int .i64 0) := (blk_cell BK229.out 0).trans rfl
                        have hcz26_1 : w21.cell? ⟨gb229, 1, none⟩ = some (.int .i64 0) := (blk_cell BK229.out 1).trans rfl
                        have hcz26_2 : w21.cell? ⟨gb229, 2, none⟩ = some (.int .i64 0) := (blk_cell BK229.out 2).trans rfl
                        have hfz26_0 := blk_frozen BK229.out 0
                        have hfz26_1 := blk_frozen BK229.out 1
                        have hfz26_2 := blk_frozen BK229.out 2
                        go_wp2
                        go_meet
                        case rel => exact ⟨_, (true), (by first | rfl | (simp; done) | (simp [*]; done)), H', ⟨by have := HK1.out; first | omega | exact Nat.le_refl _⟩, ⟨by (with_reducible repeat (first | apply Kd.R_alloc | apply Kd.R_drewN | apply Kd.R_drew)); exact Kd.R_mono (Kd.R_far (p := ⟨gb229, 2, none⟩) (Kd.R_far (p := ⟨gb229, 1, none⟩) (Kd.R_far (p := ⟨gb229, 0, none⟩) (Kd.R_types HO_4.out BK229.out (by decide)) (fun _ hk => hk.2) (.int .i64 ((rd_T42 t225 x30_1).f0))) (fun _ hk => hk.2) (.int .i64 ((rd_T42 t225 x30_1).f1))) (fun _ hk => hk.2) (.int .i64 ((rd_T42 t225 x30_1).f2))) (fun _ hk => trivial)⟩, ⟨by (with_reducible repeat (first | apply Kd.R_alloc | apply Kd.R_drewN | apply Kd.R_drew)); exact Kd.R_mono (Kd.R_far (p := ⟨gb229, 2, none⟩) (Kd.R_far (p := ⟨gb229, 1, none⟩) (Kd.R_far (p := ⟨gb229, 0, none⟩) (Kd.R_types HO_5.out BK229.out (by decide)) (fun _ hk => hk.2) (.int .i64 ((rd_T42 t225 x30_1).f0))) (fun _ hk => hk.2) (.int .i64 ((rd_T42 t225 x30_1).f1))) (fun _ hk => hk.2) (.int .i64 ((rd_T42 t225 x30_1).f2))) (fun _ hk => trivial)⟩, ⟨by (with_reducible repeat (first | apply Kd.R_alloc | apply Kd.R_drewN | apply Kd.R_drew)); exact Kd.R_mono (Kd.R_far (p := ⟨gb229, 2, none⟩) (Kd.R_far (p := ⟨gb229, 1, none⟩) (Kd.R_far (p := ⟨gb229, 0, none⟩) (Kd.R_mono HO_28.out (fun k_ hk => (⟨hk, hk.2⟩ : _ ∧ k_ ≠ gb229))) (fun _ hk => hk.2) (.int .i64 ((rd_T42 t225 x30_1).f0))) (fun _ hk => hk.2) (.int .i64 ((rd_T42 t225 x30_1).f1))) (fun _ hk => hk.2) (.int .i64 ((rd_T42 t225 x30_1).f2))) (fun _ hk => hk.1.2)⟩, ⟨by (with_reducible repeat (first | refine blk_drewN ?_ _ | refine blk_drew ?_ | refine blk_alloc ?_ _)); refine blk_put (cs := #[.int .i64 ((rd_T42 t225 x30_1).f0), .int .i64 ((rd_T42 t225 x30_1).f1), .int .i64 0]) ?_ 2 _ rfl; (with_reducible repeat (first | refine blk_drewN ?_ _ | refine blk_drew ?_ | refine blk_alloc ?_ _)); refine blk_put (cs := #[.int .i64 ((rd_T42 t225 x30_1).f0), .int .i64 0, .int .i64 0]) ?_ 1 _ rfl; (with_reducible repeat (first | refine blk_drewN ?_ _ | refine blk_drew ?_ | refine blk_alloc ?_ _)); refine blk_put (cs := #[.int .i64 0, .int .i64 0, .int .i64 0]) ?_ 0 _ rfl; (with_reducible repeat (first | refine blk_drewN ?_ _ | refine blk_drew ?_ | refine blk_alloc ?_ _)); exact BK229.out⟩, ⟨by repeat (first | (with_reducible first | exact HB.out | apply below_alloc | apply pw_below_drewN | apply below_drew1 | refine below_set ?_ GE229.out) | exact HB.out)⟩⟩
                      · rw [if_neg c25] at H
                        have c25b0 : decide ((t219.length : Int) ≤ ((rd_T42 t225 x30_1).f0)) = false := decide_eq_false c25
                        clear c25
                        by_cases c27 : ((rd_T42 t225 x30_1).f1) < 0
                        · rw [if_pos c27] at H
                          have c27b0 : decide (((rd_T42 t225 x30_1).f1) < 0) = true := decide_eq_true c27
                          clear c27
                          have H' := Aside0.mk H
                          clear H
                          have hcz28_0 : w21.cell? ⟨gb229, 0, none⟩ = some (.int .i64 0) := (blk_cell BK229.out 0).trans rfl
                          have hcz28_1 : w21.cell? ⟨gb229, 1, none⟩ = some (.int .i64 0) := (blk_cell BK229.out 1).trans rfl
                          have hcz28_2 : w21.cell? ⟨gb229, 2, none⟩ = some (.int .i64 0) := (blk_cell BK229.out 2).trans rfl
                          have hfz28_0 := blk_frozen BK229.out 0
                          have hfz28_1 := blk_frozen BK229.out 1
                          have hfz28_2 := blk_frozen BK229.out 2
                          go_wp2
                          go_meet
                          case rel => exact ⟨_, (true), (by first | rfl | (simp; done) | (simp [*]; done)), H', ⟨by have := HK1.out; first | omega | exact Nat.le_refl _⟩, ⟨by (with_reducible repeat (first | apply Kd.R_alloc | apply Kd.R_drewN | apply Kd.R_drew)); exact Kd.R_mono (Kd.R_far (p := ⟨gb229, 2, none⟩) (Kd.R_far (p := ⟨gb229, 1, none⟩) (Kd.R_far (p := ⟨gb229, 0, none⟩) (Kd.R_types HO_4.out BK229.out (by decide)) (fun _ hk => hk.2) (.int .i64 ((rd_T42 t225 x30_1).f0))) (fun _ hk => hk.2) (.int .i64 ((rd_T42 t225 x30_1).f1))) (fun _ hk => hk.2) (.int .i64 ((rd_T42 t225 x30_1).f2))) (fun _ hk => trivial)⟩, ⟨by (with_reducible repeat (first | apply Kd.R_alloc | apply Kd.R_drewN | apply Kd.R_drew)); exact Kd.R_mono (Kd.R_far (p := ⟨gb229, 2, none⟩) (Kd.R_far (p := ⟨gb229, 1, none⟩) (Kd.R_far (p := ⟨gb229, 0, none⟩) (Kd.R_types HO_5.out BK229.out (by decide)) (fun _ hk => hk.2) (.int .i64 ((rd_T42 t225 x30_1).f0))) (fun _ hk => hk.2) (.int .i64 ((rd_T42 t225 x30_1).f1))) (fun _ hk => hk.2) (.int .i64 ((rd_T42 t225 x30_1).f2))) (fun _ hk => trivial)⟩, ⟨by (with_reducible repeat (first | apply Kd.R_alloc | apply Kd.R_drewN | apply Kd.R_drew)); exact Kd.R_mono (Kd.R_far (p := ⟨gb229, 2, none⟩) (Kd.R_far (p := ⟨gb229, 1, none⟩) (Kd.R_far (p := ⟨gb229, 0, none⟩) (Kd.R_mono HO_28.out (fun k_ hk => (⟨hk, hk.2⟩ : _ ∧ k_ ≠ gb229))) (fun _ hk => hk.2) (.int .i64 ((rd_T42 t225 x30_1).f0))) (fun _ hk => hk.2) (.int .i64 ((rd_T42 t225 x30_1).f1))) (fun _ hk => hk.2) (.int .i64 ((rd_T42 t225 x30_1).f2))) (fun _ hk => hk.1.2)⟩, ⟨by (with_reducible repeat (first | refine blk_drewN ?_ _ | refine blk_drew ?_ | refine blk_alloc ?_ _)); refine blk_put (cs := #[.int .i64 ((rd_T42 t225 x30_1).f0), .int .i64 ((rd_T42 t225 x30_1).f1), .int .i64 0]) ?_ 2 _ rfl; (with_reducible repeat (first | refine blk_drewN ?_ _ | refine blk_drew ?_ | refine blk_alloc ?_ _)); refine blk_put (cs := #[.int .i64 ((rd_T42 t225 x30_1).f0), .int .i64 0, .int .i64 0]) ?_ 1 _ rfl; (with_reducible repeat (first | refine blk_drewN ?_ _ | refine blk_drew ?_ | refine blk_alloc ?_ _)); refine blk_put (cs := #[.int .i64 0, .int .i64 0, .int .i64 0]) ?_ 0 _ rfl; (with_reducible repeat (first | refine blk_drewN ?_ _ | refine blk_drew ?_ | refine blk_alloc ?_ _)); exact BK229.out⟩, ⟨by repeat (first | (with_reducible first | exact HB.out | apply below_alloc | apply pw_below_drewN | apply below_drew1 | refine below_set ?_ GE229.out) | exact HB.out)⟩⟩
                        · rw [if_neg c27] at H
                          have c27b0 : decide (((rd_T42 t225 x30_1).f1) < 0) = false := decide_eq_false c27
                          clear c27
                          have H' := Aside0.mk H
                          clear H
                          have hcz29_0 : w21.cell? ⟨gb229, 0, none⟩ = some (.int .i64 0) := (blk_cell BK229.out 0).trans rfl
                          have hcz29_1 : w21.cell? ⟨gb229, 1, none⟩ = some (.int .i64 0) := (blk_cell BK229.out 1).trans rfl
                          have hcz29_2 : w21.cell? ⟨gb229, 2, none⟩ = some (.int .i64 0) := (blk_cell BK229.out 2).trans rfl
                          have hfz29_0 := blk_frozen BK229.out 0
                          have hfz29_1 := blk_frozen BK229.out 1
                          have hfz29_2 := blk_frozen BK229.out 2
                          go_wp2
                          go_meet
                          case rel => exact ⟨_, (decide (((rd_T42 t225 x30_1).f2) < 1)), (by first | rfl | (simp; done) | (simp [*]; done)), H', ⟨by have := HK1.out; first | omega | exact Nat.le_refl _⟩, ⟨by (with_reducible repeat (first | apply Kd.R_alloc | apply Kd.R_drewN | apply Kd.R_drew)); exact Kd.R_mono (Kd.R_far (p := ⟨gb229, 2, none⟩) (Kd.R_far (p := ⟨gb229, 1, none⟩) (Kd.R_far (p := ⟨gb229, 0, none⟩) (Kd.R_types HO_4.out BK229.out (by decide)) (fun _ hk => hk.2) (.int .i64 ((rd_T42 t225 x30_1).f0))) (fun _ hk => hk.2) (.int .i64 ((rd_T42 t225 x30_1).f1))) (fun _ hk => hk.2) (.int .i64 ((rd_T42 t225 x30_1).f2))) (fun _ hk => trivial)⟩, ⟨by (with_reducible repeat (first | apply Kd.R_alloc | apply Kd.R_drewN | apply Kd.R_drew)); exact Kd.R_mono (Kd.R_far (p := ⟨gb229, 2, none⟩) (Kd.R_far (p := ⟨gb229, 1, none⟩) (Kd.R_far (p := ⟨gb229, 0, none⟩) (Kd.R_types HO_5.out BK229.out (by decide)) (fun _ hk => hk.2) (.int .i64 ((rd_T42 t225 x30_1).f0))) (fun _ hk => hk.2) (.int .i64 ((rd_T42 t225 x30_1).f1))) (fun _ hk => hk.2) (.int .i64 ((rd_T42 t225 x30_1).f2))) (fun _ hk => trivial)⟩, ⟨by (with_reducible repeat (first | apply Kd.R_alloc | apply Kd.R_drewN | apply Kd.R_drew)); exact Kd.R_mono (Kd.R_far (p := ⟨gb229, 2, none⟩) (Kd.R_far (p := ⟨gb229, 1, none⟩) (Kd.R_far (p := ⟨gb229, 0, none⟩) (Kd.R_mono HO_28.out (fun k_ hk => (⟨hk, hk.2⟩ : _ ∧ k_ ≠ gb229))) (fun _ hk => hk.2) (.int .i64 ((rd_T42 t225 x30_1).f0))) (fun _ hk => hk.2) (.int .i64 ((rd_T42 t225 x30_1).f1))) (fun _ hk => hk.2) (.int .i64 ((rd_T42 t225 x30_1).f2))) (fun _ hk => hk.1.2)⟩, ⟨by (with_reducible repeat (first | refine blk_drewN ?_ _ | refine blk_drew ?_ | refine blk_alloc ?_ _)); refine blk_put (cs := #[.int .i64 ((rd_T42 t225 x30_1).f0), .int .i64 ((rd_T42 t225 x30_1).f1), .int .i64 0]) ?_ 2 _ rfl; (with_reducible repeat (first | refine blk_drewN ?_ _ | refine blk_drew ?_ | refine blk_alloc ?_ _)); refine blk_put (cs := #[.int .i64 ((rd_T42 t225 x30_1).f0), .int .i64 0, .int .i64 0]) ?_ 1 _ rfl; (with_reducible repeat (first | refine blk_drewN ?_ _ | refine blk_drew ?_ | refine blk_alloc ?_ _)); refine blk_put (cs := #[.int .i64 0, .int .i64 0, .int .i64 0]) ?_ 0 _ rfl; (with_reducible repeat (first | refine blk_drewN ?_ _ | refine blk_drew ?_ | refine blk_alloc ?_ _)); exact BK229.out⟩, ⟨by repeat (first | (with_reducible first | exact HB.out | apply below_alloc | apply pw_below_drewN | apply below_drew1 | refine below_set ?_ GE229.out) | exact HB.out)⟩⟩
                  case rest =>
                    clear HC20
                    try clear c1
                    try clear c2
                    try clear p2
                    try clear q2
                    try clear hx2
                    try clear c3
                    try clear c3b0
                    try clear c3b1
                    try clear p6
                    try clear c7
                    try clear c7b0
                    try clear c7b1
                    try clear c8
                    try clear c8b0
                    try clear c8b1
                    try clear c13
                    try clear c15
                    try clear c17
                    try clear c17b0
                    try clear c18
                    try clear c18b0
                    try clear c19
                    try clear c19b0
                    try clear c20
                    try clear p22
                    try clear q22
                    try clear hx22
                    try clear c23
                    try clear c23b0
                    try clear c25
                    try clear c25b0
                    try clear c27
                    try clear c27b0
                    try clear hcz22_0
                    try clear hcz22_1
                    try clear hcz22_2
                    try clear hcz24_0
                    try clear hcz24_1
                    try clear hcz24_2
                    try clear hcz26_0
                    try clear hcz26_1
                    try clear hcz26_2
                    try clear hcz28_0
                    try clear hcz28_1
                    try clear hcz28_2
                    try clear hcz29_0
                    try clear hcz29_1
                    try clear hcz29_2
                    try clear hfz22_0
                    try clear hfz22_1
                    try clear hfz22_2
                    try clear hfz24_0
                    try clear hfz24_1
                    try clear hfz24_2
                    try clear hfz26_0
                    try clear hfz26_1
                    try clear hfz26_2
                    try clear hfz28_0
                    try clear hfz28_1
                    try clear hfz28_2
                    try clear hfz29_0
                    try clear hfz29_1
                    try clear hfz29_2
                    try clear hx228_0
                    try clear hx228_1
                    try clear hx228_2
                    try clear p2
                    try clear p228
                    try clear p6
                    try clear q228
                    obtain ⟨kq, x53_19, rfl, HA, HJ19, HO_4, HO_5, HO_28, BK229, HB⟩ := hcut
                    cases kq with
                    | zero => exact absurd HA.out (by simp [lockfastlaw11_TileWhole.j1])
                    | succ kj19 =>
                      have H := HA.out
                      clear HA
                      simp only [lockfastlaw11_TileWhole.j1] at H
                      by_cases c30 : x53_19 = true
                      · subst c30
                        have H1 : (some false) = some r := by rw [if_pos rfl] at H; exact H
                        clear H
                        have H := H1
                        clear H1
                        obtain rfl := Option.some.inj H
                        go_wp2
                        go_ret
                        exact ⟨by first | rfl | (simp [errW_none, errW_some] <;> rfl) | (simp only [← hji6]; first | rfl | (simp [errW_none, errW_some] <;> rfl)) | (simp [*, errW_none, errW_some] <;> rfl), by repeat (first | (with_reducible first | exact HB.out | apply below_alloc | apply pw_below_drewN | apply below_drew1 | refine below_set ?_ GE229.out) | exact HB.out)⟩
                      · replace c30 := Bool.eq_false_iff.mpr c30
                        subst c30
                        have H1 : (if ((rd_T42 t225 x30_1).f2) < 32 then (if 0 ≤ ((rd_T42 t225 x30_1).f0) then (if ((rd_T42 t225 x30_1).f0) < (x5_1.length : Int) then (if 0 ≤ (wrap64 (16 + ((rd_T42 t225 x30_1).f1))) then (if (Go.bits .and .i64 (shr .i64 (rd x5_1 ((rd_T42 t225 x30_1).f0)) (wrap64 (16 + ((rd_T42 t225 x30_1).f1)))) 1) = 1 then (some false) else (if (wrap64 ((wrap64 (((rd_T42 t225 x30_1).f1) + 1)) * ((rd_T42 t225 x30_1).f2))) > 32 then (some false) else (lockfastlaw11_TileWhole.l0 kj19 t218 t219 (x5_1.set (((rd_T42 t225 x30_1).f0) : Int).toNat (Go.bits .or .i64 (Go.bits .or .i64 (rd x5_1 ((rd_T42 t225 x30_1).f0)) 1) (shl .i64 1 (wrap64 (16 + ((rd_T42 t225 x30_1).f1)))))) t225 (t225.length : Int) (wrap64 (x30_1 + 1))))) else (none)) else (none)) else (none)) else (lockfastlaw11_TileWhole.l1 kj19 t218 t219 x5_1 0 t225 (t225.length : Int) x30_1 ((rd_T42 t225 x30_1).f0) ((rd_T42 t225 x30_1).f1) ((rd_T42 t225 x30_1).f2))) = some r := by rw [if_neg (show ¬ (false = true) by decide)] at H; exact H
                        clear H
                        have H := H1
                        clear H1
                        by_cases c31 : ((rd_T42 t225 x30_1).f2) < 32
                        · rw [if_pos c31] at H
                          have c31b0 : decide (((rd_T42 t225 x30_1).f2) < 32) = true := decide_eq_true c31
                          clear c31
                          by_cases c32 : 0 ≤ ((rd_T42 t225 x30_1).f0)
                          · rw [if_pos c32] at H
                            have c32b0 : decide (0 ≤ ((rd_T42 t225 x30_1).f0)) = true := decide_eq_true c32
                            clear c32
                            by_cases c33 : ((rd_T42 t225 x30_1).f0) < (x5_1.length : Int)
                            · rw [if_pos c33] at H
                              have c33b0 : decide (((rd_T42 t225 x30_1).f0) < (x5_1.length : Int)) = true := decide_eq_true c33
                              clear c33
                              obtain ⟨ji34, hji34⟩ : ∃ j_ : Int, (wrap64 (16 + ((rd_T42 t225 x30_1).f1))) = j_ := ⟨_, rfl⟩
                              replace H : (if 0 ≤ (ji34) then (if (Go.bits .and .i64 (shr .i64 (rd x5_1 ((rd_T42 t225 x30_1).f0)) (ji34)) 1) = 1 then (some false) else (if (wrap64 ((wrap64 (((rd_T42 t225 x30_1).f1) + 1)) * ((rd_T42 t225 x30_1).f2))) > 32 then (some false) else (lockfastlaw11_TileWhole.l0 kj19 t218 t219 (x5_1.set (((rd_T42 t225 x30_1).f0) : Int).toNat (Go.bits .or .i64 (Go.bits .or .i64 (rd x5_1 ((rd_T42 t225 x30_1).f0)) 1) (shl .i64 1 (ji34)))) t225 (t225.length : Int) (wrap64 (x30_1 + 1))))) else (none)) = some r := by first | (rw [hji34] at H; exact H) | (simp only [hji34] at H ⊢; exact H)
                              have hji34w : (IntKind.i64.wrap (16 + ((rd_T42 t225 x30_1).f1))) = ji34 := (i64_w _).trans hji34
                              by_cases c35 : 0 ≤ (ji34)
                              · rw [if_pos c35] at H
                                have c35b0 := eq_true c35
                                have c35b1 : decide (0 ≤ (ji34)) = true := decide_eq_true c35
                                clear c35
                                obtain ⟨ji36, hji36⟩ : ∃ j_ : Int, (shr .i64 (rd x5_1 ((rd_T42 t225 x30_1).f0)) (ji34)) = j_ := ⟨_, rfl⟩
                                replace H : (if (Go.bits .and .i64 (ji36) 1) = 1 then (some false) else (if (wrap64 ((wrap64 (((rd_T42 t225 x30_1).f1) + 1)) * ((rd_T42 t225 x30_1).f2))) > 32 then (some false) else (lockfastlaw11_TileWhole.l0 kj19 t218 t219 (x5_1.set (((rd_T42 t225 x30_1).f0) : Int).toNat (Go.bits .or .i64 (Go.bits .or .i64 (rd x5_1 ((rd_T42 t225 x30_1).f0)) 1) (shl .i64 1 (ji34)))) t225 (t225.length : Int) (wrap64 (x30_1 + 1))))) = some r := by first | (rw [hji36] at H; exact H) | (simp only [hji36] at H ⊢; exact H)
                                have hji36_ : ((rd x5_1 ((rd_T42 t225 x30_1).f0)) / 2 ^ min (ji34).toNat 64) = ji36 := hji36
                                have hji36z : (ji34) ≤ 64 → ((rd x5_1 ((rd_T42 t225 x30_1).f0)) / 2 ^ (ji34).toNat) = ji36 := shr_small hji36
                                by_cases c37 : (Go.bits .and .i64 (ji36) 1) = 1
                                · rw [if_pos c37] at H
                                  have c37b0 : ((Go.bits .and .i64 (ji36) 1) == 1) = true := beq_iff_eq.mpr c37
                                  have c37b1 : ((Go.bits .and .i64 (ji36) 1) != 1) = false := bne_eq_false_iff_eq.mpr c37
                                  clear c37
                                  obtain rfl := Option.some.inj H
                                  have hcz38_0 : wc.cell? ⟨gb229, 0, none⟩ = some (.int .i64 ((rd_T42 t225 x30_1).f0)) := (blk_cell BK229.out 0).trans rfl
                                  have hcz38_1 : wc.cell? ⟨gb229, 1, none⟩ = some (.int .i64 ((rd_T42 t225 x30_1).f1)) := (blk_cell BK229.out 1).trans rfl
                                  have hcz38_2 : wc.cell? ⟨gb229, 2, none⟩ = some (.int .i64 ((rd_T42 t225 x30_1).f2)) := (blk_cell BK229.out 2).trans rfl
                                  have hfz38_0 := blk_frozen BK229.out 0
                                  have hfz38_1 := blk_frozen BK229.out 1
                                  have hfz38_2 := blk_frozen BK229.out 2
                                  try go_wp2
                                  have n0_ := Aside0.mk (Kd.R_drew HO_4.out)
                                  have n1_ := Aside0.mk (Kd.R_drew HO_5.out)
                                  have n2_ := Aside0.mk (Kd.R_drew HO_28.out)
                                  have n3_ := Aside0.mk (blk_drew BK229.out)
                                  have n4_ := Aside0.mk (below_drew1 HB.out)
                                  clear HO_4
                                  clear HO_5
                                  clear HO_28
                                  clear BK229
                                  clear HB
                                  have HO_4 := n0_
                                  have HO_5 := n1_
                                  have HO_28 := n2_
                                  have BK229 := n3_
                                  have HB := n4_
                                  clear n0_ n1_ n2_ n3_ n4_
                                  obtain ⟨Ao40, co40, eo40⟩ := Kd.R_slice HO_5.out
                                  (first | subst eo40 | (injection eo40 with f1_ f2_ f3_; have f4_ := f1_.symm; have f5_ := f3_.symm; clear f1_ f2_ f3_; subst f4_; subst f5_))
                                  have p230 : 0 ≤ (((rd_T42 t225 x30_1).f0) : Int) := of_decide_eq_true (by first | (with_reducible assumption) | assumption)
                                  have q230 : ((rd_T42 t225 x30_1).f0) < (x5_1.length : Int) := of_decide_eq_true (by first | (with_reducible assumption) | assumption)
                                  obtain ⟨ad230, e230, hx230_0⟩ := Kd.at_int (Kd.R_reads' HO_5.out).2.2 ((rd_T42 t225 x30_1).f0) p230 q230
                                  cases e230
                                  replace p230 := eq_true p230
                                  replace q230 := eq_true q230
                                  refine start_ (n := 20) (S := fun w' => w'.cell? ⟨gb229, 0, none⟩ = some (.int .i64 ((rd_T42 t225 x30_1).f0)) ∧ w'.cell? ⟨gb229, 1, none⟩ = some (.int .i64 ((rd_T42 t225 x30_1).f1)) ∧ w'.cell? ⟨gb229, 2, none⟩ = some (.int .i64 ((rd_T42 t225 x30_1).f2)) ∧ w'.cell? (ad230.add (((rd_T42 t225 x30_1).f0)).toNat) = some (.int .i64 (rd x5_1 ((rd_T42 t225 x30_1).f0)))) (ds := []) #[false, false, false, false, false, false, false, false, false, false, false, false, false, false, false, false, false, false, false, false] (by kernel_rfl) rfl rfl ⟨(blk_cell BK229.out 0).trans rfl, (blk_cell BK229.out 1).trans rfl, (blk_cell BK229.out 2).trans rfl, hx230_0⟩ (fun hHeld => ?_); refine with_tabW lockfastlaw11_TileWhole.tab12 lockfastlaw11_TileWhole.bits12 (fun HT_ HW_ => ?_)
                                  generalize wc.drew = w39 at HO_4 HO_5 HO_28 BK229 HB hx230_0 hHeld ⊢
                                  refine pure_ (i := 0) (N := some 57) (v := ?_) (a' := ?_) #[true, false, false, false, false, false, false, false, false, false, false, false, false, false, false, false, false, false, false, false] rfl rfl (any_of HT_.out (by kernel_rfl)) (fun _ _ _ h => h) (Or.inl ⟨by rfl, ?_⟩) ?_ ?_
                                  rotate_left
                                  · intro w'
                                    go_simp
                                    with_reducible rfl
                                  rotate_left
                                  · simp only [Act.put, List.setIfInBounds_toArray, List.set_cons_zero, List.set_cons_succ, i64_w, i32_w]
                                    rfl
                                  refine pure_ (i := 1) (N := some 58) (v := ?_) (a' := ?_) #[true, true, false, false, false, false, false, false, false, false, false, false, false, false, false, false, false, false, false, false] rfl rfl (any_of HT_.out (by kernel_rfl)) (fun _ _ _ h => h) (Or.inl ⟨by rfl, ?_⟩) ?_ ?_
                                  rotate_left
                                  · intro w'
                                    go_simp
                                    with_reducible rfl
                                  rotate_left
                                  · simp only [Act.put, List.setIfInBounds_toArray, List.set_cons_zero, List.set_cons_succ, i64_w, i32_w]
                                    rfl
                                  refine pure_ (i := 5) (N := some 62) (v := ?_) (a' := ?_) #[true, true, false, false, false, true, false, false, false, false, false, false, false, false, false, false, false, false, false, false] rfl rfl (any_of HT_.out (by kernel_rfl)) (fun _ _ _ h => h) (Or.inl ⟨by rfl, ?_⟩) ?_ ?_
                                  rotate_left
                                  · intro w'
                                    go_simp
                                    with_reducible rfl
                                  rotate_left
                                  · simp only [Act.put, List.setIfInBounds_toArray, List.set_cons_zero, List.set_cons_succ, i64_w, i32_w]
                                    rfl
                                  refine take_ (i := 2) (N := some 59) (v := ?_) (a' := ?_) #[true, true, true, false, false, true, false, false, false, false, false, false, false, false, false, false, false, false, false, false] rfl rfl (take_ofW HT_.out HW_.out (by kernel_rfl)) (fun _ _ _ h => h) (Or.inl ⟨by rfl, ?_⟩) hHeld ?_ ?_
                                  rotate_left
                                  · rintro w' ⟨s0, s1, s2, s3⟩
                                    go_simp
                                    with_reducible rfl
                                  rotate_left
                                  · simp only [Act.put, List.setIfInBounds_toArray, List.set_cons_zero, List.set_cons_succ, i64_w, i32_w]
                                    rfl
                                  refine pure_ (i := 3) (N := some 60) (v := ?_) (a' := ?_) #[true, true, true, true, false, true, false, false, false, false, false, false, false, false, false, false, false, false, false, false] rfl rfl (any_of HT_.out (by kernel_rfl)) (fun _ _ _ h => h) (Or.inl ⟨by rfl, ?_⟩) ?_ ?_
                                  rotate_left
                                  · intro w'
                                    go_simp
                                    with_reducible rfl
                                  rotate_left
                                  · simp only [Act.put, List.setIfInBounds_toArray, List.set_cons_zero, List.set_cons_succ, i64_w, i32_w]
                                    rfl
                                  refine take_ (i := 4) (N := some 61) (v := ?_) (a' := ?_) #[true, true, true, true, true, true, false, false, false, false, false, false, false, false, false, false, false, false, false, false] rfl rfl (take_ofW HT_.out HW_.out (by kernel_rfl)) (fun _ _ _ h => h) (Or.inl ⟨by rfl, ?_⟩) hHeld ?_ ?_
                                  rotate_left
                                  · rintro w' ⟨s0, s1, s2, s3⟩
                                    go_simp
                                    with_reducible rfl
                                  rotate_left
                                  · simp only [Act.put, List.setIfInBounds_toArray, List.set_cons_zero, List.set_cons_succ, i64_w, i32_w]
                                    rfl
                                  refine take_ (i := 6) (N := some 63) (v := ?_) (a' := ?_) #[true, true, true, true, true, true, true, false, false, false, false, false, false, false, false, false, false, false, false, false] rfl rfl (take_ofW HT_.out HW_.out (by kernel_rfl)) (fun _ _ _ h => h) (Or.inl ⟨by rfl, ?_⟩) hHeld ?_ ?_
                                  rotate_left
                                  · rintro w' ⟨s0, s1, s2, s3⟩
                                    go_simp
                                    with_reducible rfl
                                  rotate_left
                                  · simp only [Act.put, List.setIfInBounds_toArray, List.set_cons_zero, List.set_cons_succ, i64_w, i32_w]
                                    rfl
                                  refine pure_ (i := 7) (N := some 64) (v := ?_) (a' := ?_) #[true, true, true, true, true, true, true, true, false, false, false, false, false, false, false, false, false, false, false, false] rfl rfl (any_of HT_.out (by kernel_rfl)) (fun _ _ _ h => h) (Or.inl ⟨by rfl, ?_⟩) ?_ ?_
                                  rotate_left
                                  · intro w'
                                    go_simp
                                    with_reducible rfl
                                  rotate_left
                                  · simp only [Act.put, List.setIfInBounds_toArray, List.set_cons_zero, List.set_cons_succ, i64_w, i32_w]
                                    rfl
                                  refine pure_ (i := 8) (N := some 65) (v := ?_) (a' := ?_) #[true, true, true, true, true, true, true, true, true, false, false, false, false, false, false, false, false, false, false, false] rfl rfl (any_of HT_.out (by kernel_rfl)) (fun _ _ _ h => h) (Or.inl ⟨by rfl, ?_⟩) ?_ ?_
                                  rotate_left
                                  · intro w'
                                    go_simp
                                    with_reducible rfl
                                  rotate_left
                                  · simp only [Act.put, List.setIfInBounds_toArray, List.set_cons_zero, List.set_cons_succ, i64_w, i32_w]
                                    rfl
                                  refine pure_ (i := 9) (N := some 66) (v := ?_) (a' := ?_) #[true, true, true, true, true, true, true, true, true, true, false, false, false, false, false, false, false, false, false, false] rfl rfl (any_of HT_.out (by kernel_rfl)) (fun _ _ _ h => h) (Or.inl ⟨by rfl, ?_⟩) ?_ ?_
                                  rotate_left
                                  · intro w'
                                    go_simp
                                    with_reducible rfl
                                  rotate_left
                                  · simp only [Act.put, List.setIfInBounds_toArray, List.set_cons_zero, List.set_cons_succ, i64_w, i32_w]
                                    rfl
                                  refine pure_ (i := 10) (N := some 67) (v := ?_) (a' := ?_) #[true, true, true, true, true, true, true, true, true, true, true, false, false, false, false, false, false, false, false, false] rfl rfl (any_of HT_.out (by kernel_rfl)) (fun _ _ _ h => h) (Or.inl ⟨by rfl, ?_⟩) ?_ ?_
                                  rotate_left
                                  · intro w'
                                    go_simp
                                    with_reducible rfl
                                  rotate_left
                                  · simp only [Act.put, List.setIfInBounds_toArray, List.set_cons_zero, List.set_cons_succ, i64_w, i32_w]
                                    rfl
                                  refine pure_ (i := 11) (N := some 68) (v := ?_) (a' := ?_) #[true, true, true, true, true, true, true, true, true, true, true, true, false, false, false, false, false, false, false, false] rfl rfl (any_of HT_.out (by kernel_rfl)) (fun _ _ _ h => h) (Or.inl ⟨by rfl, ?_⟩) ?_ ?_
                                  rotate_left
                                  · intro w'
                                    go_simp
                                    with_reducible rfl
                                  rotate_left
                                  · simp only [Act.put, List.setIfInBounds_toArray, List.set_cons_zero, List.set_cons_succ, i64_w, i32_w]
                                    rfl
                                  refine pure_ (i := 12) (N := some 69) (v := undef) (a' := ?_) #[true, true, true, true, true, true, true, true, true, true, true, true, true, false, false, false, false, false, false, false] rfl rfl (any_of HT_.out (by kernel_rfl)) (fun _ _ _ h => h) (Or.inr ⟨by rfl, rfl⟩) ?_ ?_
                                  rotate_left
                                  · simp only [Act.put, List.setIfInBounds_toArray, List.set_cons_zero, List.set_cons_succ, i64_w, i32_w]
                                    rfl
                                  refine pure_ (i := 13) (N := some 70) (v := undef) (a' := ?_) #[true, true, true, true, true, true, true, true, true, true, true, true, true, true, false, false, false, false, false, false] rfl rfl (any_of HT_.out (by kernel_rfl)) (fun _ _ _ h => h) (Or.inr ⟨by rfl, rfl⟩) ?_ ?_
                                  rotate_left
                                  · simp only [Act.put, List.setIfInBounds_toArray, List.set_cons_zero, List.set_cons_succ, i64_w, i32_w]
                                    rfl
                                  refine pure_ (i := 14) (N := some 71) (v := undef) (a' := ?_) #[true, true, true, true, true, true, true, true, true, true, true, true, true, true, true, false, false, false, false, false] rfl rfl (any_of HT_.out (by kernel_rfl)) (fun _ _ _ h => h) (Or.inr ⟨by rfl, rfl⟩) ?_ ?_
                                  rotate_left
                                  · simp only [Act.put, List.setIfInBounds_toArray, List.set_cons_zero, List.set_cons_succ, i64_w, i32_w]
                                    rfl
                                  refine pure_ (i := 15) (N := some 72) (v := undef) (a' := ?_) #[true, true, true, true, true, true, true, true, true, true, true, true, true, true, true, true, false, false, false, false] rfl rfl (any_of HT_.out (by kernel_rfl)) (fun _ _ _ h => h) (Or.inr ⟨by rfl, rfl⟩) ?_ ?_
                                  rotate_left
                                  · simp only [Act.put, List.setIfInBounds_toArray, List.set_cons_zero, List.set_cons_succ, i64_w, i32_w]
                                    rfl
                                  refine pure_ (i := 16) (N := some 73) (v := undef) (a' := ?_) #[true, true, true, true, true, true, true, true, true, true, true, true, true, true, true, true, true, false, false, false] rfl rfl (any_of HT_.out (by kernel_rfl)) (fun _ _ _ h => h) (Or.inr ⟨by rfl, rfl⟩) ?_ ?_
                                  rotate_left
                                  · simp only [Act.put, List.setIfInBounds_toArray, List.set_cons_zero, List.set_cons_succ, i64_w, i32_w]
                                    rfl
                                  refine pure_ (i := 17) (N := some 74) (v := undef) (a' := ?_) #[true, true, true, true, true, true, true, true, true, true, true, true, true, true, true, true, true, true, false, false] rfl rfl (any_of HT_.out (by kernel_rfl)) (fun _ _ _ h => h) (Or.inr ⟨by rfl, rfl⟩) ?_ ?_
                                  rotate_left
                                  · simp only [Act.put, List.setIfInBounds_toArray, List.set_cons_zero, List.set_cons_succ, i64_w, i32_w]
                                    rfl
                                  refine pure_ (i := 18) (N := some 75) (v := undef) (a' := ?_) #[true, true, true, true, true, true, true, true, true, true, true, true, true, true, true, true, true, true, true, false] rfl rfl (any_of HT_.out (by kernel_rfl)) (fun _ _ _ h => h) (Or.inr ⟨by rfl, rfl⟩) ?_ ?_
                                  rotate_left
                                  · simp only [Act.put, List.setIfInBounds_toArray, List.set_cons_zero, List.set_cons_succ, i64_w, i32_w]
                                    rfl
                                  refine pure_ (i := 19) (N := some 76) (v := ?_) (a' := ?_) #[true, true, true, true, true, true, true, true, true, true, true, true, true, true, true, true, true, true, true, true] rfl rfl (any_of HT_.out (by kernel_rfl)) (fun _ _ _ h => h) (Or.inl ⟨by rfl, ?_⟩) ?_ ?_
                                  rotate_left
                                  · intro w'
                                    go_simp
                                    with_reducible rfl
                                  rotate_left
                                  · simp only [Act.put, List.setIfInBounds_toArray, List.set_cons_zero, List.set_cons_succ, i64_w, i32_w]
                                    rfl
                                  refine done_ (done_of HT_.out (by kernel_rfl)) ?_
                                  try go_wp2
                                  go_ret
                                  exact ⟨by first | rfl | (simp [errW_none, errW_some] <;> rfl) | (simp only [← hji6, ← hji34, ← hji36]; first | rfl | (simp [errW_none, errW_some] <;> rfl)) | (simp [*, errW_none, errW_some] <;> rfl), by repeat (first | (with_reducible first | exact HB.out | apply below_alloc | apply pw_below_drewN | apply below_drew1 | refine below_set ?_ GE229.out) | exact HB.out)⟩
                                · rw [if_neg c37] at H
                                  have c37b0 : ((Go.bits .and .i64 (ji36) 1) == 1) = false := beq_eq_false_iff_ne.mpr c37
                                  have c37b1 : ((Go.bits .and .i64 (ji36) 1) != 1) = true := bne_iff_ne.mpr c37
                                  by_cases c41 : (wrap64 ((wrap64 (((rd_T42 t225 x30_1).f1) + 1)) * ((rd_T42 t225 x30_1).f2))) > 32
                                  · rw [if_pos c41] at H
                                    have c41b0 : decide (32 < (wrap64 ((wrap64 (((rd_T42 t225 x30_1).f1) + 1)) * ((rd_T42 t225 x30_1).f2)))) = true := decide_eq_true c41
                                    clear c41
                                    obtain rfl := Option.some.inj H
                                    have hcz42_0 : wc.cell? ⟨gb229, 0, none⟩ = some (.int .i64 ((rd_T42 t225 x30_1).f0)) := (blk_cell BK229.out 0).trans rfl
                                    have hcz42_1 : wc.cell? ⟨gb229, 1, none⟩ = some (.int .i64 ((rd_T42 t225 x30_1).f1)) := (blk_cell BK229.out 1).trans rfl
                                    have hcz42_2 : wc.cell? ⟨gb229, 2, none⟩ = some (.int .i64 ((rd_T42 t225 x30_1).f2)) := (blk_cell BK229.out 2).trans rfl
                                    have hfz42_0 := blk_frozen BK229.out 0
                                    have hfz42_1 := blk_frozen BK229.out 1
                                    have hfz42_2 := blk_frozen BK229.out 2
                                    try go_wp2
                                    have n0_ := Aside0.mk (Kd.R_drew HO_4.out)
                                    have n1_ := Aside0.mk (Kd.R_drew HO_5.out)
                                    have n2_ := Aside0.mk (Kd.R_drew HO_28.out)
                                    have n3_ := Aside0.mk (blk_drew BK229.out)
                                    have n4_ := Aside0.mk (below_drew1 HB.out)
                                    clear HO_4
                                    clear HO_5
                                    clear HO_28
                                    clear BK229
                                    clear HB
                                    have HO_4 := n0_
                                    have HO_5 := n1_
                                    have HO_28 := n2_
                                    have BK229 := n3_
                                    have HB := n4_
                                    clear n0_ n1_ n2_ n3_ n4_
                                    obtain ⟨Ao44, co44, eo44⟩ := Kd.R_slice HO_5.out
                                    (first | subst eo44 | (injection eo44 with f1_ f2_ f3_; have f4_ := f1_.symm; have f5_ := f3_.symm; clear f1_ f2_ f3_; subst f4_; subst f5_))
                                    have p230 : 0 ≤ (((rd_T42 t225 x30_1).f0) : Int) := of_decide_eq_true (by first | (with_reducible assumption) | assumption)
                                    have q230 : ((rd_T42 t225 x30_1).f0) < (x5_1.length : Int) := of_decide_eq_true (by first | (with_reducible assumption) | assumption)
                                    obtain ⟨ad230, e230, hx230_0⟩ := Kd.at_int (Kd.R_reads' HO_5.out).2.2 ((rd_T42 t225 x30_1).f0) p230 q230
                                    cases e230
                                    replace p230 := eq_true p230
                                    replace q230 := eq_true q230
                                    refine start_ (n := 20) (S := fun w' => w'.cell? ⟨gb229, 0, none⟩ = some (.int .i64 ((rd_T42 t225 x30_1).f0)) ∧ w'.cell? ⟨gb229, 1, none⟩ = some (.int .i64 ((rd_T42 t225 x30_1).f1)) ∧ w'.cell? ⟨gb229, 2, none⟩ = some (.int .i64 ((rd_T42 t225 x30_1).f2)) ∧ w'.cell? (ad230.add (((rd_T42 t225 x30_1).f0)).toNat) = some (.int .i64 (rd x5_1 ((rd_T42 t225 x30_1).f0)))) (ds := []) #[false, false, false, false, false, false, false, false, false, false, false, false, false, false, false, false, false, false, false, false] (by kernel_rfl) rfl rfl ⟨(blk_cell BK229.out 0).trans rfl, (blk_cell BK229.out 1).trans rfl, (blk_cell BK229.out 2).trans rfl, hx230_0⟩ (fun hHeld => ?_); refine with_tabW lockfastlaw11_TileWhole.tab12 lockfastlaw11_TileWhole.bits12 (fun HT_ HW_ => ?_)
                                    generalize wc.drew = w43 at HO_4 HO_5 HO_28 BK229 HB hx230_0 hHeld ⊢
                                    refine pure_ (i := 0) (N := some 57) (v := ?_) (a' := ?_) #[true, false, false, false, false, false, false, false, false, false, false, false, false, false, false, false, false, false, false, false] rfl rfl (any_of HT_.out (by kernel_rfl)) (fun _ _ _ h => h) (Or.inl ⟨by rfl, ?_⟩) ?_ ?_
                                    rotate_left
                                    · intro w'
                                      go_simp
                                      with_reducible rfl
                                    rotate_left
                                    · simp only [Act.put, List.setIfInBounds_toArray, List.set_cons_zero, List.set_cons_succ, i64_w, i32_w]
                                      rfl
                                    refine pure_ (i := 1) (N := some 58) (v := ?_) (a' := ?_) #[true, true, false, false, false, false, false, false, false, false, false, false, false, false, false, false, false, false, false, false] rfl rfl (any_of HT_.out (by kernel_rfl)) (fun _ _ _ h => h) (Or.inl ⟨by rfl, ?_⟩) ?_ ?_
                                    rotate_left
                                    · intro w'
                                      go_simp
                                      with_reducible rfl
                                    rotate_left
                                    · simp only [Act.put, List.setIfInBounds_toArray, List.set_cons_zero, List.set_cons_succ, i64_w, i32_w]
                                      rfl
                                    refine pure_ (i := 5) (N := some 62) (v := ?_) (a' := ?_) #[true, true, false, false, false, true, false, false, false, false, false, false, false, false, false, false, false, false, false, false] rfl rfl (any_of HT_.out (by kernel_rfl)) (fun _ _ _ h => h) (Or.inl ⟨by rfl, ?_⟩) ?_ ?_
                                    rotate_left
                                    · intro w'
                                      go_simp
                                      with_reducible rfl
                                    rotate_left
                                    · simp only [Act.put, List.setIfInBounds_toArray, List.set_cons_zero, List.set_cons_succ, i64_w, i32_w]
                                      rfl
                                    refine take_ (i := 2) (N := some 59) (v := ?_) (a' := ?_) #[true, true, true, false, false, true, false, false, false, false, false, false, false, false, false, false, false, false, false, false] rfl rfl (take_ofW HT_.out HW_.out (by kernel_rfl)) (fun _ _ _ h => h) (Or.inl ⟨by rfl, ?_⟩) hHeld ?_ ?_
                                    rotate_left
                                    · rintro w' ⟨s0, s1, s2, s3⟩
                                      go_simp
                                      with_reducible rfl
                                    rotate_left
                                    · simp only [Act.put, List.setIfInBounds_toArray, List.set_cons_zero, List.set_cons_succ, i64_w, i32_w]
                                      rfl
                                    refine pure_ (i := 3) (N := some 60) (v := ?_) (a' := ?_) #[true, true, true, true, false, true, false, false, false, false, false, false, false, false, false, false, false, false, false, false] rfl rfl (any_of HT_.out (by kernel_rfl)) (fun _ _ _ h => h) (Or.inl ⟨by rfl, ?_⟩) ?_ ?_
                                    rotate_left
                                    · intro w'
                                      go_simp
                                      with_reducible rfl
                                    rotate_left
                                    · simp only [Act.put, List.setIfInBounds_toArray, List.set_cons_zero, List.set_cons_succ, i64_w, i32_w]
                                      rfl
                                    refine take_ (i := 4) (N := some 61) (v := ?_) (a' := ?_) #[true, true, true, true, true, true, false, false, false, false, false, false, false, false, false, false, false, false, false, false] rfl rfl (take_ofW HT_.out HW_.out (by kernel_rfl)) (fun _ _ _ h => h) (Or.inl ⟨by rfl, ?_⟩) hHeld ?_ ?_
                                    rotate_left
                                    · rintro w' ⟨s0, s1, s2, s3⟩
                                      go_simp
                                      with_reducible rfl
                                    rotate_left
                                    · simp only [Act.put, List.setIfInBounds_toArray, List.set_cons_zero, List.set_cons_succ, i64_w, i32_w]
                                      rfl
                                    refine take_ (i := 6) (N := some 63) (v := ?_) (a' := ?_) #[true, true, true, true, true, true, true, false, false, false, false, false, false, false, false, false, false, false, false, false] rfl rfl (take_ofW HT_.out HW_.out (by kernel_rfl)) (fun _ _ _ h => h) (Or.inl ⟨by rfl, ?_⟩) hHeld ?_ ?_
                                    rotate_left
                                    · rintro w' ⟨s0, s1, s2, s3⟩
                                      go_simp
                                      with_reducible rfl
                                    rotate_left
                                    · simp only [Act.put, List.setIfInBounds_toArray, List.set_cons_zero, List.set_cons_succ, i64_w, i32_w]
                                      rfl
                                    refine pure_ (i := 7) (N := some 64) (v := ?_) (a' := ?_) #[true, true, true, true, true, true, true, true, false, false, false, false, false, false, false, false, false, false, false, false] rfl rfl (any_of HT_.out (by kernel_rfl)) (fun _ _ _ h => h) (Or.inl ⟨by rfl, ?_⟩) ?_ ?_
                                    rotate_left
                                    · intro w'
                                      go_simp
                                      with_reducible rfl
                                    rotate_left
                                    · simp only [Act.put, List.setIfInBounds_toArray, List.set_cons_zero, List.set_cons_succ, i64_w, i32_w]
                                      rfl
                                    refine pure_ (i := 8) (N := some 65) (v := ?_) (a' := ?_) #[true, true, true, true, true, true, true, true, true, false, false, false, false, false, false, false, false, false, false, false] rfl rfl (any_of HT_.out (by kernel_rfl)) (fun _ _ _ h => h) (Or.inl ⟨by rfl, ?_⟩) ?_ ?_
                                    rotate_left
                                    · intro w'
                                      go_simp
                                      with_reducible rfl
                                    rotate_left
                                    · simp only [Act.put, List.setIfInBounds_toArray, List.set_cons_zero, List.set_cons_succ, i64_w, i32_w]
                                      rfl
                                    refine pure_ (i := 9) (N := some 66) (v := ?_) (a' := ?_) #[true, true, true, true, true, true, true, true, true, true, false, false, false, false, false, false, false, false, false, false] rfl rfl (any_of HT_.out (by kernel_rfl)) (fun _ _ _ h => h) (Or.inl ⟨by rfl, ?_⟩) ?_ ?_
                                    rotate_left
                                    · intro w'
                                      go_simp
                                      with_reducible rfl
                                    rotate_left
                                    · simp only [Act.put, List.setIfInBounds_toArray, List.set_cons_zero, List.set_cons_succ, i64_w, i32_w]
                                      rfl
                                    refine pure_ (i := 10) (N := some 67) (v := ?_) (a' := ?_) #[true, true, true, true, true, true, true, true, true, true, true, false, false, false, false, false, false, false, false, false] rfl rfl (any_of HT_.out (by kernel_rfl)) (fun _ _ _ h => h) (Or.inl ⟨by rfl, ?_⟩) ?_ ?_
                                    rotate_left
                                    · intro w'
                                      go_simp
                                      with_reducible rfl
                                    rotate_left
                                    · simp only [Act.put, List.setIfInBounds_toArray, List.set_cons_zero, List.set_cons_succ, i64_w, i32_w]
                                      rfl
                                    refine pure_ (i := 11) (N := some 68) (v := ?_) (a' := ?_) #[true, true, true, true, true, true, true, true, true, true, true, true, false, false, false, false, false, false, false, false] rfl rfl (any_of HT_.out (by kernel_rfl)) (fun _ _ _ h => h) (Or.inl ⟨by rfl, ?_⟩) ?_ ?_
                                    rotate_left
                                    · intro w'
                                      go_simp
                                      with_reducible rfl
                                    rotate_left
                                    · simp only [Act.put, List.setIfInBounds_toArray, List.set_cons_zero, List.set_cons_succ, i64_w, i32_w]
                                      rfl
                                    refine pure_ (i := 12) (N := some 69) (v := ?_) (a' := ?_) #[true, true, true, true, true, true, true, true, true, true, true, true, true, false, false, false, false, false, false, false] rfl rfl (any_of HT_.out (by kernel_rfl)) (fun _ _ _ h => h) (Or.inl ⟨by rfl, ?_⟩) ?_ ?_
                                    rotate_left
                                    · intro w'
                                      go_simp
                                      with_reducible rfl
                                    rotate_left
                                    · simp only [Act.put, List.setIfInBounds_toArray, List.set_cons_zero, List.set_cons_succ, i64_w, i32_w]
                                      rfl
                                    refine pure_ (i := 15) (N := some 72) (v := ?_) (a' := ?_) #[true, true, true, true, true, true, true, true, true, true, true, true, true, false, false, true, false, false, false, false] rfl rfl (any_of HT_.out (by kernel_rfl)) (fun _ _ _ h => h) (Or.inl ⟨by rfl, ?_⟩) ?_ ?_
                                    rotate_left
                                    · intro w'
                                      go_simp
                                      with_reducible rfl
                                    rotate_left
                                    · simp only [Act.put, List.setIfInBounds_toArray, List.set_cons_zero, List.set_cons_succ, i64_w, i32_w]
                                      rfl
                                    refine take_ (i := 13) (N := some 70) (v := ?_) (a' := ?_) #[true, true, true, true, true, true, true, true, true, true, true, true, true, true, false, true, false, false, false, false] rfl rfl (take_ofW HT_.out HW_.out (by kernel_rfl)) (fun _ _ _ h => h) (Or.inl ⟨by rfl, ?_⟩) hHeld ?_ ?_
                                    rotate_left
                                    · rintro w' ⟨s0, s1, s2, s3⟩
                                      go_simp
                                      with_reducible rfl
                                    rotate_left
                                    · simp only [Act.put, List.setIfInBounds_toArray, List.set_cons_zero, List.set_cons_succ, i64_w, i32_w]
                                      rfl
                                    refine pure_ (i := 14) (N := some 71) (v := ?_) (a' := ?_) #[true, true, true, true, true, true, true, true, true, true, true, true, true, true, true, true, false, false, false, false] rfl rfl (any_of HT_.out (by kernel_rfl)) (fun _ _ _ h => h) (Or.inl ⟨by rfl, ?_⟩) ?_ ?_
                                    rotate_left
                                    · intro w'
                                      go_simp
                                      with_reducible rfl
                                    rotate_left
                                    · simp only [Act.put, List.setIfInBounds_toArray, List.set_cons_zero, List.set_cons_succ, i64_w, i32_w]
                                      rfl
                                    refine take_ (i := 16) (N := some 73) (v := ?_) (a' := ?_) #[true, true, true, true, true, true, true, true, true, true, true, true, true, true, true, true, true, false, false, false] rfl rfl (take_ofW HT_.out HW_.out (by kernel_rfl)) (fun _ _ _ h => h) (Or.inl ⟨by rfl, ?_⟩) hHeld ?_ ?_
                                    rotate_left
                                    · rintro w' ⟨s0, s1, s2, s3⟩
                                      go_simp
                                      with_reducible rfl
                                    rotate_left
                                    · simp only [Act.put, List.setIfInBounds_toArray, List.set_cons_zero, List.set_cons_succ, i64_w, i32_w]
                                      rfl
                                    refine pure_ (i := 17) (N := some 74) (v := ?_) (a' := ?_) #[true, true, true, true, true, true, true, true, true, true, true, true, true, true, true, true, true, true, false, false] rfl rfl (any_of HT_.out (by kernel_rfl)) (fun _ _ _ h => h) (Or.inl ⟨by rfl, ?_⟩) ?_ ?_
                                    rotate_left
                                    · intro w'
                                      go_simp
                                      with_reducible rfl
                                    rotate_left
                                    · simp only [Act.put, List.setIfInBounds_toArray, List.set_cons_zero, List.set_cons_succ, i64_w, i32_w]
                                      rfl
                                    refine pure_ (i := 18) (N := some 75) (v := ?_) (a' := ?_) #[true, true, true, true, true, true, true, true, true, true, true, true, true, true, true, true, true, true, true, false] rfl rfl (any_of HT_.out (by kernel_rfl)) (fun _ _ _ h => h) (Or.inl ⟨by rfl, ?_⟩) ?_ ?_
                                    rotate_left
                                    · intro w'
                                      go_simp
                                      with_reducible rfl
                                    rotate_left
                                    · simp only [Act.put, List.setIfInBounds_toArray, List.set_cons_zero, List.set_cons_succ, i64_w, i32_w]
                                      rfl
                                    refine pure_ (i := 19) (N := some 76) (v := ?_) (a' := ?_) #[true, true, true, true, true, true, true, true, true, true, true, true, true, true, true, true, true, true, true, true] rfl rfl (any_of HT_.out (by kernel_rfl)) (fun _ _ _ h => h) (Or.inl ⟨by rfl, ?_⟩) ?_ ?_
                                    rotate_left
                                    · intro w'
                                      go_simp
                                      with_reducible rfl
                                    rotate_left
                                    · simp only [Act.put, List.setIfInBounds_toArray, List.set_cons_zero, List.set_cons_succ, i64_w, i32_w]
                                      rfl
                                    refine done_ (done_of HT_.out (by kernel_rfl)) ?_
                                    try go_wp2
                                    go_ret
                                    exact ⟨by first | rfl | (simp [errW_none, errW_some] <;> rfl) | (simp only [← hji6, ← hji34, ← hji36]; first | rfl | (simp [errW_none, errW_some] <;> rfl)) | (simp [*, errW_none, errW_some] <;> rfl), by repeat (first | (with_reducible first | exact HB.out | apply below_alloc | apply pw_below_drewN | apply below_drew1 | refine below_set ?_ GE229.out) | exact HB.out)⟩
                                  · rw [if_neg c41] at H
                                    have c41b0 : decide (32 < (wrap64 ((wrap64 (((rd_T42 t225 x30_1).f1) + 1)) * ((rd_T42 t225 x30_1).f2)))) = false := decide_eq_false c41
                                    clear c41
                                    have c45b0 := eq_true (of_decide_eq_true (by first | (with_reducible assumption) | assumption) : 0 ≤ (ji34))
                                    obtain ⟨ji46, hji46⟩ : ∃ j_ : Int, (shl .i64 1 (ji34)) = j_ := ⟨_, rfl⟩
                                    replace H : (lockfastlaw11_TileWhole.l0 kj19 t218 t219 (x5_1.set (((rd_T42 t225 x30_1).f0) : Int).toNat (Go.bits .or .i64 (Go.bits .or .i64 (rd x5_1 ((rd_T42 t225 x30_1).f0)) 1) (ji46))) t225 (t225.length : Int) (wrap64 (x30_1 + 1))) = some r := by first | (rw [hji46] at H; exact H) | (simp only [hji46] at H ⊢; exact H)
                                    have hji46_ : (IntKind.i64.wrap (1 * 2 ^ min (ji34).toNat 64)) = ji46 := hji46
                                    have hji46z : (ji34) ≤ 64 → (IntKind.i64.wrap (1 * 2 ^ (ji34).toNat)) = ji46 := shl_small hji46
                                    have hji46u : (IntKind.i64.wrap (2 ^ min (ji34).toNat 64)) = ji46 := by have h_ := hji46_; rw [Int.one_mul] at h_; exact h_
                                    have hji46v : (ji34) ≤ 64 → (IntKind.i64.wrap (2 ^ (ji34).toNat)) = ji46 := fun hle_ => by have h_ := hji46z hle_; rw [Int.one_mul] at h_; exact h_
                                    have hji46y : (wrap64 (1 * 2 ^ min (ji34).toNat 64)) = ji46 := (i64_w _).symm.trans hji46_
                                    have hji46x : (ji34) ≤ 64 → (wrap64 (1 * 2 ^ (ji34).toNat)) = ji46 := fun h_ => (i64_w _).symm.trans (hji46z h_)
                                    obtain ⟨y232, hy232⟩ : ∃ y_ : List Int, y_ = (x5_1.set (((rd_T42 t225 x30_1).f0) : Int).toNat (Go.bits .or .i64 (Go.bits .or .i64 (rd x5_1 ((rd_T42 t225 x30_1).f0)) 1) (ji46))) := ⟨_, rfl⟩
                                    replace H : (lockfastlaw11_TileWhole.l0 kj19 t218 t219 y232 t225 (t225.length : Int) (wrap64 (x30_1 + 1))) = some r := by first | (rw [hy232]; with_reducible exact H) | (have H2_ := (Option.bind_some _ _).symm.trans H; rw [hy232]; with_reducible exact H2_) | (have H2_ := (Option.bind_some _ _).symm.trans H; with_reducible exact H2_) | with_reducible exact H | (rw [hy232]; exact H) | exact H
                                    have Ny232 := Aside0.mk hy232
                                    clear hy232
                                    have H' := Aside0.mk H
                                    clear H
                                    have hcz48_0 : wc.cell? ⟨gb229, 0, none⟩ = some (.int .i64 ((rd_T42 t225 x30_1).f0)) := (blk_cell BK229.out 0).trans rfl
                                    have hcz48_1 : wc.cell? ⟨gb229, 1, none⟩ = some (.int .i64 ((rd_T42 t225 x30_1).f1)) := (blk_cell BK229.out 1).trans rfl
                                    have hcz48_2 : wc.cell? ⟨gb229, 2, none⟩ = some (.int .i64 ((rd_T42 t225 x30_1).f2)) := (blk_cell BK229.out 2).trans rfl
                                    have hfz48_0 := blk_frozen BK229.out 0
                                    have hfz48_1 := blk_frozen BK229.out 1
                                    have hfz48_2 := blk_frozen BK229.out 2
                                    try go_wp2
                                    have n0_ := Aside0.mk (Kd.R_drew HO_4.out)
                                    have n1_ := Aside0.mk (Kd.R_drew HO_5.out)
                                    have n2_ := Aside0.mk (Kd.R_drew HO_28.out)
                                    have n3_ := Aside0.mk (blk_drew BK229.out)
                                    have n4_ := Aside0.mk (below_drew1 HB.out)
                                    clear HO_4
                                    clear HO_5
                                    clear HO_28
                                    clear BK229
                                    clear HB
                                    have HO_4 := n0_
                                    have HO_5 := n1_
                                    have HO_28 := n2_
                                    have BK229 := n3_
                                    have HB := n4_
                                    clear n0_ n1_ n2_ n3_ n4_
                                    obtain ⟨Ao50, co50, eo50⟩ := Kd.R_slice HO_5.out
                                    (first | subst eo50 | (injection eo50 with f1_ f2_ f3_; have f4_ := f1_.symm; have f5_ := f3_.symm; clear f1_ f2_ f3_; subst f4_; subst f5_))
                                    have p230 : 0 ≤ (((rd_T42 t225 x30_1).f0) : Int) := of_decide_eq_true (by first | (with_reducible assumption) | assumption)
                                    have q230 : ((rd_T42 t225 x30_1).f0) < (x5_1.length : Int) := of_decide_eq_true (by first | (with_reducible assumption) | assumption)
                                    obtain ⟨ad230, e230, hx230_0⟩ := Kd.at_int (Kd.R_reads' HO_5.out).2.2 ((rd_T42 t225 x30_1).f0) p230 q230
                                    cases e230
                                    replace p230 := eq_true p230
                                    replace q230 := eq_true q230
                                    refine start_ (n := 20) (S := fun w' => w'.cell? ⟨gb229, 0, none⟩ = some (.int .i64 ((rd_T42 t225 x30_1).f0)) ∧ w'.cell? ⟨gb229, 1, none⟩ = some (.int .i64 ((rd_T42 t225 x30_1).f1)) ∧ w'.cell? ⟨gb229, 2, none⟩ = some (.int .i64 ((rd_T42 t225 x30_1).f2)) ∧ w'.cell? (ad230.add (((rd_T42 t225 x30_1).f0)).toNat) = some (.int .i64 (rd x5_1 ((rd_T42 t225 x30_1).f0)))) (ds := []) #[false, false, false, false, false, false, false, false, false, false, false, false, false, false, false, false, false, false, false, false] (by kernel_rfl) rfl rfl ⟨(blk_cell BK229.out 0).trans rfl, (blk_cell BK229.out 1).trans rfl, (blk_cell BK229.out 2).trans rfl, hx230_0⟩ (fun hHeld => ?_); refine with_tabW lockfastlaw11_TileWhole.tab12 lockfastlaw11_TileWhole.bits12 (fun HT_ HW_ => ?_)
                                    generalize wc.drew = w49 at HO_4 HO_5 HO_28 BK229 HB hx230_0 hHeld ⊢
                                    refine pure_ (i := 0) (N := some 57) (v := ?_) (a' := ?_) #[true, false, false, false, false, false, false, false, false, false, false, false, false, false, false, false, false, false, false, false] rfl rfl (any_of HT_.out (by kernel_rfl)) (fun _ _ _ h => h) (Or.inl ⟨by rfl, ?_⟩) ?_ ?_
                                    rotate_left
                                    · intro w'
                                      go_simp
                                      with_reducible rfl
                                    rotate_left
                                    · simp only [Act.put, List.setIfInBounds_toArray, List.set_cons_zero, List.set_cons_succ, i64_w, i32_w]
                                      rfl
                                    refine pure_ (i := 1) (N := some 58) (v := ?_) (a' := ?_) #[true, true, false, false, false, false, false, false, false, false, false, false, false, false, false, false, false, false, false, false] rfl rfl (any_of HT_.out (by kernel_rfl)) (fun _ _ _ h => h) (Or.inl ⟨by rfl, ?_⟩) ?_ ?_
                                    rotate_left
                                    · intro w'
                                      go_simp
                                      with_reducible rfl
                                    rotate_left
                                    · simp only [Act.put, List.setIfInBounds_toArray, List.set_cons_zero, List.set_cons_succ, i64_w, i32_w]
                                      rfl
                                    refine pure_ (i := 5) (N := some 62) (v := ?_) (a' := ?_) #[true, true, false, false, false, true, false, false, false, false, false, false, false, false, false, false, false, false, false, false] rfl rfl (any_of HT_.out (by kernel_rfl)) (fun _ _ _ h => h) (Or.inl ⟨by rfl, ?_⟩) ?_ ?_
                                    rotate_left
                                    · intro w'
                                      go_simp
                                      with_reducible rfl
                                    rotate_left
                                    · simp only [Act.put, List.setIfInBounds_toArray, List.set_cons_zero, List.set_cons_succ, i64_w, i32_w]
                                      rfl
                                    refine take_ (i := 2) (N := some 59) (v := ?_) (a' := ?_) #[true, true, true, false, false, true, false, false, false, false, false, false, false, false, false, false, false, false, false, false] rfl rfl (take_ofW HT_.out HW_.out (by kernel_rfl)) (fun _ _ _ h => h) (Or.inl ⟨by rfl, ?_⟩) hHeld ?_ ?_
                                    rotate_left
                                    · rintro w' ⟨s0, s1, s2, s3⟩
                                      go_simp
                                      with_reducible rfl
                                    rotate_left
                                    · simp only [Act.put, List.setIfInBounds_toArray, List.set_cons_zero, List.set_cons_succ, i64_w, i32_w]
                                      rfl
                                    refine pure_ (i := 3) (N := some 60) (v := ?_) (a' := ?_) #[true, true, true, true, false, true, false, false, false, false, false, false, false, false, false, false, false, false, false, false] rfl rfl (any_of HT_.out (by kernel_rfl)) (fun _ _ _ h => h) (Or.inl ⟨by rfl, ?_⟩) ?_ ?_
                                    rotate_left
                                    · intro w'
                                      go_simp
                                      with_reducible rfl
                                    rotate_left
                                    · simp only [Act.put, List.setIfInBounds_toArray, List.set_cons_zero, List.set_cons_succ, i64_w, i32_w]
                                      rfl
                                    refine take_ (i := 4) (N := some 61) (v := ?_) (a' := ?_) #[true, true, true, true, true, true, false, false, false, false, false, false, false, false, false, false, false, false, false, false] rfl rfl (take_ofW HT_.out HW_.out (by kernel_rfl)) (fun _ _ _ h => h) (Or.inl ⟨by rfl, ?_⟩) hHeld ?_ ?_
                                    rotate_left
                                    · rintro w' ⟨s0, s1, s2, s3⟩
                                      go_simp
                                      with_reducible rfl
                                    rotate_left
                                    · simp only [Act.put, List.setIfInBounds_toArray, List.set_cons_zero, List.set_cons_succ, i64_w, i32_w]
                                      rfl
                                    refine take_ (i := 6) (N := some 63) (v := ?_) (a' := ?_) #[true, true, true, true, true, true, true, false, false, false, false, false, false, false, false, false, false, false, false, false] rfl rfl (take_ofW HT_.out HW_.out (by kernel_rfl)) (fun _ _ _ h => h) (Or.inl ⟨by rfl, ?_⟩) hHeld ?_ ?_
                                    rotate_left
                                    · rintro w' ⟨s0, s1, s2, s3⟩
                                      go_simp
                                      with_reducible rfl
                                    rotate_left
                                    · simp only [Act.put, List.setIfInBounds_toArray, List.set_cons_zero, List.set_cons_succ, i64_w, i32_w]
                                      rfl
                                    refine pure_ (i := 7) (N := some 64) (v := ?_) (a' := ?_) #[true, true, true, true, true, true, true, true, false, false, false, false, false, false, false, false, false, false, false, false] rfl rfl (any_of HT_.out (by kernel_rfl)) (fun _ _ _ h => h) (Or.inl ⟨by rfl, ?_⟩) ?_ ?_
                                    rotate_left
                                    · intro w'
                                      go_simp
                                      with_reducible rfl
                                    rotate_left
                                    · simp only [Act.put, List.setIfInBounds_toArray, List.set_cons_zero, List.set_cons_succ, i64_w, i32_w]
                                      rfl
                                    refine pure_ (i := 8) (N := some 65) (v := ?_) (a' := ?_) #[true, true, true, true, true, true, true, true, true, false, false, false, false, false, false, false, false, false, false, false] rfl rfl (any_of HT_.out (by kernel_rfl)) (fun _ _ _ h => h) (Or.inl ⟨by rfl, ?_⟩) ?_ ?_
                                    rotate_left
                                    · intro w'
                                      go_simp
                                      with_reducible rfl
                                    rotate_left
                                    · simp only [Act.put, List.setIfInBounds_toArray, List.set_cons_zero, List.set_cons_succ, i64_w, i32_w]
                                      rfl
                                    refine pure_ (i := 9) (N := some 66) (v := ?_) (a' := ?_) #[true, true, true, true, true, true, true, true, true, true, false, false, false, false, false, false, false, false, false, false] rfl rfl (any_of HT_.out (by kernel_rfl)) (fun _ _ _ h => h) (Or.inl ⟨by rfl, ?_⟩) ?_ ?_
                                    rotate_left
                                    · intro w'
                                      go_simp
                                      with_reducible rfl
                                    rotate_left
                                    · simp only [Act.put, List.setIfInBounds_toArray, List.set_cons_zero, List.set_cons_succ, i64_w, i32_w]
                                      rfl
                                    refine pure_ (i := 10) (N := some 67) (v := ?_) (a' := ?_) #[true, true, true, true, true, true, true, true, true, true, true, false, false, false, false, false, false, false, false, false] rfl rfl (any_of HT_.out (by kernel_rfl)) (fun _ _ _ h => h) (Or.inl ⟨by rfl, ?_⟩) ?_ ?_
                                    rotate_left
                                    · intro w'
                                      go_simp
                                      with_reducible rfl
                                    rotate_left
                                    · simp only [Act.put, List.setIfInBounds_toArray, List.set_cons_zero, List.set_cons_succ, i64_w, i32_w]
                                      rfl
                                    refine pure_ (i := 11) (N := some 68) (v := ?_) (a' := ?_) #[true, true, true, true, true, true, true, true, true, true, true, true, false, false, false, false, false, false, false, false] rfl rfl (any_of HT_.out (by kernel_rfl)) (fun _ _ _ h => h) (Or.inl ⟨by rfl, ?_⟩) ?_ ?_
                                    rotate_left
                                    · intro w'
                                      go_simp
                                      with_reducible rfl
                                    rotate_left
                                    · simp only [Act.put, List.setIfInBounds_toArray, List.set_cons_zero, List.set_cons_succ, i64_w, i32_w]
                                      rfl
                                    refine pure_ (i := 12) (N := some 69) (v := ?_) (a' := ?_) #[true, true, true, true, true, true, true, true, true, true, true, true, true, false, false, false, false, false, false, false] rfl rfl (any_of HT_.out (by kernel_rfl)) (fun _ _ _ h => h) (Or.inl ⟨by rfl, ?_⟩) ?_ ?_
                                    rotate_left
                                    · intro w'
                                      go_simp
                                      with_reducible rfl
                                    rotate_left
                                    · simp only [Act.put, List.setIfInBounds_toArray, List.set_cons_zero, List.set_cons_succ, i64_w, i32_w]
                                      rfl
                                    refine pure_ (i := 15) (N := some 72) (v := ?_) (a' := ?_) #[true, true, true, true, true, true, true, true, true, true, true, true, true, false, false, true, false, false, false, false] rfl rfl (any_of HT_.out (by kernel_rfl)) (fun _ _ _ h => h) (Or.inl ⟨by rfl, ?_⟩) ?_ ?_
                                    rotate_left
                                    · intro w'
                                      go_simp
                                      with_reducible rfl
                                    rotate_left
                                    · simp only [Act.put, List.setIfInBounds_toArray, List.set_cons_zero, List.set_cons_succ, i64_w, i32_w]
                                      rfl
                                    refine take_ (i := 13) (N := some 70) (v := ?_) (a' := ?_) #[true, true, true, true, true, true, true, true, true, true, true, true, true, true, false, true, false, false, false, false] rfl rfl (take_ofW HT_.out HW_.out (by kernel_rfl)) (fun _ _ _ h => h) (Or.inl ⟨by rfl, ?_⟩) hHeld ?_ ?_
                                    rotate_left
                                    · rintro w' ⟨s0, s1, s2, s3⟩
                                      go_simp
                                      with_reducible rfl
                                    rotate_left
                                    · simp only [Act.put, List.setIfInBounds_toArray, List.set_cons_zero, List.set_cons_succ, i64_w, i32_w]
                                      rfl
                                    refine pure_ (i := 14) (N := some 71) (v := ?_) (a' := ?_) #[true, true, true, true, true, true, true, true, true, true, true, true, true, true, true, true, false, false, false, false] rfl rfl (any_of HT_.out (by kernel_rfl)) (fun _ _ _ h => h) (Or.inl ⟨by rfl, ?_⟩) ?_ ?_
                                    rotate_left
                                    · intro w'
                                      go_simp
                                      with_reducible rfl
                                    rotate_left
                                    · simp only [Act.put, List.setIfInBounds_toArray, List.set_cons_zero, List.set_cons_succ, i64_w, i32_w]
                                      rfl
                                    refine take_ (i := 16) (N := some 73) (v := ?_) (a' := ?_) #[true, true, true, true, true, true, true, true, true, true, true, true, true, true, true, true, true, false, false, false] rfl rfl (take_ofW HT_.out HW_.out (by kernel_rfl)) (fun _ _ _ h => h) (Or.inl ⟨by rfl, ?_⟩) hHeld ?_ ?_
                                    rotate_left
                                    · rintro w' ⟨s0, s1, s2, s3⟩
                                      go_simp
                                      with_reducible rfl
                                    rotate_left
                                    · simp only [Act.put, List.setIfInBounds_toArray, List.set_cons_zero, List.set_cons_succ, i64_w, i32_w]
                                      rfl
                                    refine pure_ (i := 17) (N := some 74) (v := ?_) (a' := ?_) #[true, true, true, true, true, true, true, true, true, true, true, true, true, true, true, true, true, true, false, false] rfl rfl (any_of HT_.out (by kernel_rfl)) (fun _ _ _ h => h) (Or.inl ⟨by rfl, ?_⟩) ?_ ?_
                                    rotate_left
                                    · intro w'
                                      go_simp
                                      with_reducible rfl
                                    rotate_left
                                    · simp only [Act.put, List.setIfInBounds_toArray, List.set_cons_zero, List.set_cons_succ, i64_w, i32_w]
                                      rfl
                                    refine pure_ (i := 18) (N := some 75) (v := ?_) (a' := ?_) #[true, true, true, true, true, true, true, true, true, true, true, true, true, true, true, true, true, true, true, false] rfl rfl (any_of HT_.out (by kernel_rfl)) (fun _ _ _ h => h) (Or.inl ⟨by rfl, ?_⟩) ?_ ?_
                                    rotate_left
                                    · intro w'
                                      go_simp
                                      with_reducible rfl
                                    rotate_left
                                    · simp only [Act.put, List.setIfInBounds_toArray, List.set_cons_zero, List.set_cons_succ, i64_w, i32_w]
                                      rfl
                                    refine pure_ (i := 19) (N := some 76) (v := ?_) (a' := ?_) #[true, true, true, true, true, true, true, true, true, true, true, true, true, true, true, true, true, true, true, true] rfl rfl (any_of HT_.out (by kernel_rfl)) (fun _ _ _ h => h) (Or.inl ⟨by rfl, ?_⟩) ?_ ?_
                                    rotate_left
                                    · intro w'
                                      go_simp
                                      with_reducible rfl
                                    rotate_left
                                    · simp only [Act.put, List.setIfInBounds_toArray, List.set_cons_zero, List.set_cons_succ, i64_w, i32_w]
                                      rfl
                                    refine done_ (done_of HT_.out (by kernel_rfl)) ?_
                                    try go_wp2
                                    have n0_ := Aside0.mk (Kd.R_drew HO_4.out)
                                    have n1_ := Aside0.mk (Kd.R_drew HO_5.out)
                                    have n2_ := Aside0.mk (Kd.R_drew HO_28.out)
                                    have n3_ := Aside0.mk (blk_drew BK229.out)
                                    have n4_ := Aside0.mk (below_drew1 HB.out)
                                    clear HO_4
                                    clear HO_5
                                    clear HO_28
                                    clear BK229
                                    clear HB
                                    have HO_4 := n0_
                                    have HO_5 := n1_
                                    have HO_28 := n2_
                                    have BK229 := n3_
                                    have HB := n4_
                                    clear n0_ n1_ n2_ n3_ n4_
                                    have p231 : 0 ≤ (((rd_T42 t225 x30_1).f0) : Int) := of_decide_eq_true (by first | (with_reducible assumption) | assumption)
                                    have q231 : ((rd_T42 t225 x30_1).f0) < (x5_1.length : Int) := of_decide_eq_true (by first | (with_reducible assumption) | assumption)
                                    obtain ⟨ad231, e231, hx231_0⟩ := Kd.at_int (Kd.R_reads' HO_5.out).2.2 ((rd_T42 t225 x30_1).f0) p231 q231
                                    obtain rfl : ad230 = ad231 := (by injection e231)
                                    replace p231 := eq_true p231
                                    replace q231 := eq_true q231
                                    have p47 : 0 ≤ (((rd_T42 t225 x30_1).f0) : Int) := of_decide_eq_true (by first | (with_reducible assumption) | assumption)
                                    have q47 : (((rd_T42 t225 x30_1).f0) : Int) < ((x5_1.length : Int) : Int) := of_decide_eq_true (by first | (with_reducible assumption) | assumption)
                                    obtain ⟨go47, co47, eo47, gb47, gl47, cl47, HG47⟩ := Kd.R_form HO_5.out (by omega)
                                    (first | cases eo47 | (injection eo47 with ea_ en_ ec_; (first | subst ea_ | (injection ea_ with ea_; subst ea_)); subst ec_; clear en_))
                                    have GB47 := Aside0.mk gb47
                                    have GG47 := Aside0.mk HG47
                                    clear gb47 gl47 HG47
                                    (first | simp only [add_plain] at hx230_0 | skip)
                                    (first | simp only [add_plain] at hx231_0 | skip)
                                    obtain ⟨hx47_0, hf47_0⟩ := Kd.R_celln 0 HO_5.out (((rd_T42 t225 x30_1).f0) : Int) p47 q47
                                    replace p47 := eq_true p47
                                    replace q47 := eq_true q47
                                    have HP52 := Kd.R_putn HO_5.out (((rd_T42 t225 x30_1).f0) : Int) (Go.bits .or .i64 (Go.bits .or .i64 (rd x5_1 ((rd_T42 t225 x30_1).f0)) 1) (ji46))
                                    rw [← Ny232.out] at HP52
                                    have HQ52 := Aside0.mk HP52
                                    clear HP52
                                    refine start_ (n := 16) (S := fun w' => w'.cell? ⟨gb229, 0, none⟩ = some (.int .i64 ((rd_T42 t225 x30_1).f0)) ∧ w'.cell? ⟨gb229, 1, none⟩ = some (.int .i64 ((rd_T42 t225 x30_1).f1)) ∧ w'.cell? ⟨gb229, 2, none⟩ = some (.int .i64 ((rd_T42 t225 x30_1).f2)) ∧ w'.cell? ⟨go47, (((rd_T42 t225 x30_1).f0)).toNat, none⟩ = some (.int .i64 (rd x5_1 ((rd_T42 t225 x30_1).f0)))) (ds := [15]) #[false, false, false, false, false, false, false, false, false, false, false, false, false, false, false, false] (by kernel_rfl) rfl rfl ⟨(blk_cell BK229.out 0).trans rfl, (blk_cell BK229.out 1).trans rfl, (blk_cell BK229.out 2).trans rfl, hx231_0⟩ (fun hHeld => ?_); refine with_tabW lockfastlaw11_TileWhole.tab14 lockfastlaw11_TileWhole.bits14 (fun HT_ HW_ => ?_)
                                    generalize w49.drew = w51 at HO_4 HO_5 HO_28 BK229 HB GG47 HQ52 hf47_0 hx230_0 hx231_0 hx47_0 hHeld ⊢
                                    refine pure_ (i := 0) (N := some 77) (v := ?_) (a' := ?_) #[true, false, false, false, false, false, false, false, false, false, false, false, false, false, false, false] rfl rfl (any_of HT_.out (by kernel_rfl)) (fun _ _ _ h => h) (Or.inl ⟨by rfl, ?_⟩) ?_ ?_
                                    rotate_left
                                    · intro w'
                                      go_simp
                                      with_reducible rfl
                                    rotate_left
                                    · simp only [Act.put, List.setIfInBounds_toArray, List.set_cons_zero, List.set_cons_succ, i64_w, i32_w]
                                      rfl
                                    refine pure_ (i := 1) (N := some 78) (v := ?_) (a' := ?_) #[true, true, false, false, false, false, false, false, false, false, false, false, false, false, false, false] rfl rfl (any_of HT_.out (by kernel_rfl)) (fun _ _ _ h => h) (Or.inl ⟨by rfl, ?_⟩) ?_ ?_
                                    rotate_left
                                    · intro w'
                                      go_simp
                                      with_reducible rfl
                                    rotate_left
                                    · simp only [Act.put, List.setIfInBounds_toArray, List.set_cons_zero, List.set_cons_succ, i64_w, i32_w]
                                      rfl
                                    refine pure_ (i := 3) (N := some 80) (v := ?_) (a' := ?_) #[true, true, false, true, false, false, false, false, false, false, false, false, false, false, false, false] rfl rfl (any_of HT_.out (by kernel_rfl)) (fun _ _ _ h => h) (Or.inl ⟨by rfl, ?_⟩) ?_ ?_
                                    rotate_left
                                    · intro w'
                                      go_simp
                                      with_reducible rfl
                                    rotate_left
                                    · simp only [Act.put, List.setIfInBounds_toArray, List.set_cons_zero, List.set_cons_succ, i64_w, i32_w]
                                      rfl
                                    refine pure_ (i := 4) (N := some 81) (v := ?_) (a' := ?_) #[true, true, false, true, true, false, false, false, false, false, false, false, false, false, false, false] rfl rfl (any_of HT_.out (by kernel_rfl)) (fun _ _ _ h => h) (Or.inl ⟨by rfl, ?_⟩) ?_ ?_
                                    rotate_left
                                    · intro w'
                                      go_simp
                                      with_reducible rfl
                                    rotate_left
                                    · simp only [Act.put, List.setIfInBounds_toArray, List.set_cons_zero, List.set_cons_succ, i64_w, i32_w]
                                      rfl
                                    refine pure_ (i := 9) (N := some 86) (v := ?_) (a' := ?_) #[true, true, false, true, true, false, false, false, false, true, false, false, false, false, false, false] rfl rfl (any_of HT_.out (by kernel_rfl)) (fun _ _ _ h => h) (Or.inl ⟨by rfl, ?_⟩) ?_ ?_
                                    rotate_left
                                    · intro w'
                                      go_simp
                                      with_reducible rfl
                                    rotate_left
                                    · simp only [Act.put, List.setIfInBounds_toArray, List.set_cons_zero, List.set_cons_succ, i64_w, i32_w]
                                      rfl
                                    refine take_ (i := 2) (N := some 79) (v := ?_) (a' := ?_) #[true, true, true, true, true, false, false, false, false, true, false, false, false, false, false, false] rfl rfl (take_ofW HT_.out HW_.out (by kernel_rfl)) (fun _ _ _ h => h) (Or.inl ⟨by rfl, ?_⟩) hHeld ?_ ?_
                                    rotate_left
                                    · rintro w' ⟨s0, s1, s2, s3⟩
                                      go_simp
                                      with_reducible rfl
                                    rotate_left
                                    · simp only [Act.put, List.setIfInBounds_toArray, List.set_cons_zero, List.set_cons_succ, i64_w, i32_w]
                                      rfl
                                    refine take_ (i := 5) (N := some 82) (v := ?_) (a' := ?_) #[true, true, true, true, true, true, false, false, false, true, false, false, false, false, false, false] rfl rfl (take_ofW HT_.out HW_.out (by kernel_rfl)) (fun _ _ _ h => h) (Or.inl ⟨by rfl, ?_⟩) hHeld ?_ ?_
                                    rotate_left
                                    · rintro w' ⟨s0, s1, s2, s3⟩
                                      go_simp
                                      with_reducible rfl
                                    rotate_left
                                    · simp only [Act.put, List.setIfInBounds_toArray, List.set_cons_zero, List.set_cons_succ, i64_w, i32_w]
                                      rfl
                                    refine pure_ (i := 6) (N := some 83) (v := ?_) (a' := ?_) #[true, true, true, true, true, true, true, false, false, true, false, false, false, false, false, false] rfl rfl (any_of HT_.out (by kernel_rfl)) (fun _ _ _ h => h) (Or.inl ⟨by rfl, ?_⟩) ?_ ?_
                                    rotate_left
                                    · intro w'
                                      go_simp
                                      with_reducible rfl
                                    rotate_left
                                    · simp only [Act.put, List.setIfInBounds_toArray, List.set_cons_zero, List.set_cons_succ, i64_w, i32_w]
                                      rfl
                                    refine take_ (i := 7) (N := some 84) (v := ?_) (a' := ?_) #[true, true, true, true, true, true, true, true, false, true, false, false, false, false, false, false] rfl rfl (take_ofW HT_.out HW_.out (by kernel_rfl)) (fun _ _ _ h => h) (Or.inl ⟨by rfl, ?_⟩) hHeld ?_ ?_
                                    rotate_left
                                    · rintro w' ⟨s0, s1, s2, s3⟩
                                      go_simp
                                      with_reducible rfl
                                    rotate_left
                                    · simp only [Act.put, List.setIfInBounds_toArray, List.set_cons_zero, List.set_cons_succ, i64_w, i32_w]
                                      rfl
                                    refine pure_ (i := 8) (N := some 85) (v := ?_) (a' := ?_) #[true, true, true, true, true, true, true, true, true, true, false, false, false, false, false, false] rfl rfl (any_of HT_.out (by kernel_rfl)) (fun _ _ _ h => h) (Or.inl ⟨by rfl, ?_⟩) ?_ ?_
                                    rotate_left
                                    · intro w'
                                      go_simp
                                      with_reducible rfl
                                    rotate_left
                                    · simp only [Act.put, List.setIfInBounds_toArray, List.set_cons_zero, List.set_cons_succ, i64_w, i32_w]
                                      rfl
                                    refine take_ (i := 10) (N := some 87) (v := ?_) (a' := ?_) #[true, true, true, true, true, true, true, true, true, true, true, false, false, false, false, false] rfl rfl (take_ofW HT_.out HW_.out (by kernel_rfl)) (fun _ _ _ h => h) (Or.inl ⟨by rfl, ?_⟩) hHeld ?_ ?_
                                    rotate_left
                                    · rintro w' ⟨s0, s1, s2, s3⟩
                                      go_simp
                                      with_reducible rfl
                                    rotate_left
                                    · simp only [Act.put, List.setIfInBounds_toArray, List.set_cons_zero, List.set_cons_succ, i64_w, i32_w]
                                      rfl
                                    refine pure_ (i := 11) (N := some 88) (v := ?_) (a' := ?_) #[true, true, true, true, true, true, true, true, true, true, true, true, false, false, false, false] rfl rfl (any_of HT_.out (by kernel_rfl)) (fun _ _ _ h => h) (Or.inl ⟨by rfl, ?_⟩) ?_ ?_
                                    rotate_left
                                    · intro w'
                                      go_simp
                                      with_reducible rfl
                                    rotate_left
                                    · simp only [Act.put, List.setIfInBounds_toArray, List.set_cons_zero, List.set_cons_succ, i64_w, i32_w]
                                      rfl
                                    refine pure_ (i := 12) (N := some 89) (v := ?_) (a' := ?_) #[true, true, true, true, true, true, true, true, true, true, true, true, true, false, false, false] rfl rfl (any_of HT_.out (by kernel_rfl)) (fun _ _ _ h => h) (Or.inl ⟨by rfl, ?_⟩) ?_ ?_
                                    rotate_left
                                    · intro w'
                                      go_simp
                                      with_reducible rfl
                                    rotate_left
                                    · simp only [Act.put, List.setIfInBounds_toArray, List.set_cons_zero, List.set_cons_succ, i64_w, i32_w]
                                      rfl
                                    refine pure_ (i := 13) (N := some 90) (v := ?_) (a' := ?_) #[true, true, true, true, true, true, true, true, true, true, true, true, true, true, false, false] rfl rfl (any_of HT_.out (by kernel_rfl)) (fun _ _ _ h => h) (Or.inl ⟨by rfl, ?_⟩) ?_ ?_
                                    rotate_left
                                    · intro w'
                                      go_simp
                                      with_reducible rfl
                                    rotate_left
                                    · simp only [Act.put, List.setIfInBounds_toArray, List.set_cons_zero, List.set_cons_succ, i64_w, i32_w]
                                      rfl
                                    refine pure_ (i := 14) (N := some 91) (v := ?_) (a' := ?_) #[true, true, true, true, true, true, true, true, true, true, true, true, true, true, true, false] rfl rfl (any_of HT_.out (by kernel_rfl)) (fun _ _ _ h => h) (Or.inl ⟨by rfl, ?_⟩) ?_ ?_
                                    rotate_left
                                    · intro w'
                                      go_simp
                                      with_reducible rfl
                                    rotate_left
                                    · simp only [Act.put, List.setIfInBounds_toArray, List.set_cons_zero, List.set_cons_succ, i64_w, i32_w]
                                      rfl
                                    refine last_ (i := 15) (N := none) #[true, true, true, true, true, true, true, true, true, true, true, true, true, true, true, true] rfl rfl (one_of HT_.out (by kernel_rfl)) (by decide) (fun K hK => ?_)
                                    refine skip_ (w1 := ?_) (by rfl) rfl ?_ ?_
                                    rotate_left
                                    · go_simp
                                      rfl
                                    refine hK.out _ _ ?_
                                    clear hK K
                                    refine done_ (done_of HT_.out (by kernel_rfl)) ?_
                                    try go_wp2
                                    go_roundg kj19
                                    case measure => have := HK1.out; have := HJ19.out; omega
                                    case rel => exact ⟨(y232), (wrap64 (x30_1 + 1)), (by first | rfl | (simp; done) | (simp [*]; done)), H', ⟨by have := HK1.out; have := HJ19.out; omega⟩, ⟨by (with_reducible repeat (first | apply Kd.R_alloc | apply Kd.R_drewN | apply Kd.R_drew)); exact Kd.R_mono (Kd.R_far (p := ⟨go47, (((rd_T42 t225 x30_1).f0) : Int).toNat, none⟩) (Kd.R_types HO_4.out GG47.out (by decide)) (fun _ hk => hk.2) (.int .i64 (Go.bits .or .i64 (Go.bits .or .i64 (rd x5_1 ((rd_T42 t225 x30_1).f0)) 1) (ji46)))) (fun _ hk => trivial)⟩, ⟨by (with_reducible repeat (first | apply Kd.R_alloc | apply Kd.R_drewN | apply Kd.R_drew)); exact HQ52.out⟩, ⟨by (with_reducible repeat (first | apply Kd.R_alloc | apply Kd.R_drewN | apply Kd.R_drew)); exact Kd.R_mono (Kd.R_far (p := ⟨go47, (((rd_T42 t225 x30_1).f0) : Int).toNat, none⟩) (Kd.R_types HO_28.out GG47.out (by decide)) (fun _ hk => hk.2) (.int .i64 (Go.bits .or .i64 (Go.bits .or .i64 (rd x5_1 ((rd_T42 t225 x30_1).f0)) 1) (ji46)))) (fun _ hk => trivial)⟩, ⟨by repeat (first | (with_reducible first | exact HB.out | apply below_alloc | apply pw_below_drewN | apply below_drew1 | refine below_set ?_ GB47.out | refine below_set ?_ GE229.out) | exact HB.out)⟩⟩
                              · rw [if_neg c35] at H
                                exact absurd H (by simp)
                            · rw [if_neg c33] at H
                              exact absurd H (by simp)
                          · rw [if_neg c32] at H
                            exact absurd H (by simp)
                        · rw [if_neg c31] at H
                          have c31b0 : decide (((rd_T42 t225 x30_1).f2) < 32) = false := decide_eq_false c31
                          clear c31
                          have H' := Aside0.mk H
                          clear H
                          have hcz53_0 : wc.cell? ⟨gb229, 0, none⟩ = some (.int .i64 ((rd_T42 t225 x30_1).f0)) := (blk_cell BK229.out 0).trans rfl
                          have hcz53_1 : wc.cell? ⟨gb229, 1, none⟩ = some (.int .i64 ((rd_T42 t225 x30_1).f1)) := (blk_cell BK229.out 1).trans rfl
                          have hcz53_2 : wc.cell? ⟨gb229, 2, none⟩ = some (.int .i64 ((rd_T42 t225 x30_1).f2)) := (blk_cell BK229.out 2).trans rfl
                          have hfz53_0 := blk_frozen BK229.out 0
                          have hfz53_1 := blk_frozen BK229.out 1
                          have hfz53_2 := blk_frozen BK229.out 2
                          go_wp2
                          go_loopg [8] kj19 (fun kq v8 w' => ∃ (x5_3 : List Int) (x8_3 : Int), v8 = .int .i64 x8_3 ∧ Aside0 (lockfastlaw11_TileWhole.l1 kq t218 t219 x5_3 x8_3 t225 (t225.length : Int) x30_1 ((rd_T42 t225 x30_1).f0) ((rd_T42 t225 x30_1).f1) ((rd_T42 t225 x30_1).f2) = some r) ∧ Aside0 (kq ≤ kj19) ∧ Aside0 (Kd.R (Kd.int .u64) 27 w' w.heap.size (fun _ => True) (.slice Ao12 t219.length co12) t219) ∧ Aside0 (Kd.R (Kd.int .i64) 3 w' w.heap.size (fun _ => True) v223 x5_3) ∧ Aside0 (Kd.R k42 42 w' w.heap.size (fun k_ => k_ ≠ gb229) (.slice (some ad228) t225.length co16) t225) ∧ Aside0 (w'.heap[gb229]? = some (.cells #[.int .i64 ((rd_T42 t225 x30_1).f0), .int .i64 ((rd_T42 t225 x30_1).f1), .int .i64 ((rd_T42 t225 x30_1).f2)] 42 (0, 0))) ∧ Aside0 (Below w.heap.size w w'))
                          case atStart => exact ⟨(x5_1), (0), (by first | rfl | (simp; done) | (simp [*]; done)), H', ⟨Nat.le_refl _⟩, ⟨by (with_reducible repeat (first | apply Kd.R_alloc | apply Kd.R_drewN | apply Kd.R_drew)); exact HO_4.out⟩, ⟨by (with_reducible repeat (first | apply Kd.R_alloc | apply Kd.R_drewN | apply Kd.R_drew)); exact HO_5.out⟩, ⟨by (with_reducible repeat (first | apply Kd.R_alloc | apply Kd.R_drewN | apply Kd.R_drew)); exact HO_28.out⟩, ⟨by (with_reducible repeat (first | refine blk_drewN ?_ _ | refine blk_drew ?_ | refine blk_alloc ?_ _)); exact BK229.out⟩, ⟨by repeat (first | (with_reducible first | exact HB.out | apply below_alloc | apply pw_below_drewN | apply below_drew1 | refine below_set ?_ GE229.out) | exact HB.out)⟩⟩
                          case round =>
                            clear H'
                            try clear p2
                            try clear q2
                            try clear hx2
                            try clear c3
                            try clear c4
                            try clear p4
                            try clear q4
                            try clear hx4
                            try clear hf4
                            try clear p6
                            try clear p23
                            try clear q23
                            try clear hx23
                            try clear c31
                            try clear c31b0
                            try clear c32
                            try clear c33
                            try clear c35
                            try clear c41
                            try clear c41b0
                            try clear c45
                            try clear c45b0
                            try clear p47
                            try clear q47
                            try clear hx47
                            try clear hf47
                            try clear hcz48_0
                            try clear hcz48_1
                            try clear hcz48_2
                            try clear hcz53_0
                            try clear hcz53_1
                            try clear hcz53_2
                            try clear hfz42_1
                            try clear hfz42_2
                            try clear hfz48_0
                            try clear hfz48_1
                            try clear hfz48_2
                            try clear hfz53_0
                            try clear hfz53_1
                            try clear hfz53_2
                            try clear hx230_0
                            try clear hx231_0
                            try clear hx47_0
                            try clear p230
                            try clear p231
                            try clear p47
                            try clear q230
                            try clear q231
                            try clear q47
                            obtain ⟨x5_3, x8_3, rfl, HA, HK3, HO_4, HO_5, HO_28, BK229, HB⟩ := hrel
                            cases gk with
                            | zero => exact absurd HA.out (by simp [lockfastlaw11_TileWhole.l1])
                            | succ k3 =>
                              have H := HA.out
                              clear HA
                              simp only [lockfastlaw11_TileWhole.l1] at H
                              by_cases c54 : x8_3 < (wrap64 (Int.tdiv ((rd_T42 t225 x30_1).f2) 32))
                              · rw [if_pos c54] at H
                                have c54b0 : decide (x8_3 < (wrap64 (Int.tdiv ((rd_T42 t225 x30_1).f2) 32))) = true := decide_eq_true c54
                                clear c54
                                by_cases c55 : (wrap64 (((rd_T42 t225 x30_1).f0) + x8_3)) ≥ (t219.length : Int)
                                · rw [if_pos c55] at H
                                  have c55b0 : decide ((t219.length : Int) ≤ (wrap64 (((rd_T42 t225 x30_1).f0) + x8_3))) = true := decide_eq_true c55
                                  clear c55
                                  obtain rfl := Option.some.inj H
                                  have hcz56_0 : wr.cell? ⟨gb229, 0, none⟩ = some (.int .i64 ((rd_T42 t225 x30_1).f0)) := (blk_cell BK229.out 0).trans rfl
                                  have hcz56_1 : wr.cell? ⟨gb229, 1, none⟩ = some (.int .i64 ((rd_T42 t225 x30_1).f1)) := (blk_cell BK229.out 1).trans rfl
                                  have hcz56_2 : wr.cell? ⟨gb229, 2, none⟩ = some (.int .i64 ((rd_T42 t225 x30_1).f2)) := (blk_cell BK229.out 2).trans rfl
                                  have hfz56_0 := blk_frozen BK229.out 0
                                  have hfz56_1 := blk_frozen BK229.out 1
                                  have hfz56_2 := blk_frozen BK229.out 2
                                  go_wp2
                                  go_ret
                                  exact ⟨by first | rfl | (simp [errW_none, errW_some] <;> rfl) | (simp only [← hji6]; first | rfl | (simp [errW_none, errW_some] <;> rfl)) | (simp [*, errW_none, errW_some] <;> rfl), by repeat (first | (with_reducible first | exact HB.out | apply below_alloc | apply pw_below_drewN | apply below_drew1 | refine below_set ?_ GE229.out) | exact HB.out)⟩
                                · rw [if_neg c55] at H
                                  have c55b0 : decide ((t219.length : Int) ≤ (wrap64 (((rd_T42 t225 x30_1).f0) + x8_3))) = false := decide_eq_false c55
                                  clear c55
                                  obtain ⟨ji57, hji57⟩ : ∃ j_ : Int, (wrap64 (((rd_T42 t225 x30_1).f0) + x8_3)) = j_ := ⟨_, rfl⟩
                                  replace H : (if 0 ≤ (ji57) then (if (ji57) < (x5_3.length : Int) then (if (rd x5_3 (ji57)) = 0 then (lockfastlaw11_TileWhole.l1 k3 t218 t219 (x5_3.set ((ji57) : Int).toNat 2) (wrap64 (x8_3 + 1)) t225 (t225.length : Int) x30_1 ((rd_T42 t225 x30_1).f0) ((rd_T42 t225 x30_1).f1) ((rd_T42 t225 x30_1).f2)) else (some false)) else (none)) else (none)) = some r := by first | (rw [hji57] at H; exact H) | (simp only [hji57] at H ⊢; exact H)
                                  (try rw [hji57] at c55b0)
                                  have hji57w : (IntKind.i64.wrap (((rd_T42 t225 x30_1).f0) + x8_3)) = ji57 := (i64_w _).trans hji57
                                  by_cases c58 : 0 ≤ (ji57)
                                  · rw [if_pos c58] at H
                                    have c58b0 : decide (0 ≤ (ji57)) = true := decide_eq_true c58
                                    clear c58
                                    by_cases c59 : (ji57) < (x5_3.length : Int)
                                    · rw [if_pos c59] at H
                                      have c59b0 : decide ((ji57) < (x5_3.length : Int)) = true := decide_eq_true c59
                                      clear c59
                                      by_cases c60 : (rd x5_3 (ji57)) = 0
                                      · rw [if_pos c60] at H
                                        have c60b0 : ((rd x5_3 (ji57)) == 0) = true := beq_iff_eq.mpr c60
                                        have c60b1 : ((rd x5_3 (ji57)) != 0) = false := bne_eq_false_iff_eq.mpr c60
                                        clear c60
                                        obtain ⟨y234, hy234⟩ : ∃ y_ : List Int, y_ = (x5_3.set ((ji57) : Int).toNat 2) := ⟨_, rfl⟩
                                        replace H : (lockfastlaw11_TileWhole.l1 k3 t218 t219 y234 (wrap64 (x8_3 + 1)) t225 (t225.length : Int) x30_1 ((rd_T42 t225 x30_1).f0) ((rd_T42 t225 x30_1).f1) ((rd_T42 t225 x30_1).f2)) = some r := by first | (rw [hy234]; with_reducible exact H) | (have H2_ := (Option.bind_some _ _).symm.trans H; rw [hy234]; with_reducible exact H2_) | (have H2_ := (Option.bind_some _ _).symm.trans H; with_reducible exact H2_) | with_reducible exact H | (rw [hy234]; exact H) | exact H
                                        have Ny234 := Aside0.mk hy234
                                        clear hy234
                                        have H' := Aside0.mk H
                                        clear H
                                        have hcz62_0 : wr.cell? ⟨gb229, 0, none⟩ = some (.int .i64 ((rd_T42 t225 x30_1).f0)) := (blk_cell BK229.out 0).trans rfl
                                        have hcz62_1 : wr.cell? ⟨gb229, 1, none⟩ = some (.int .i64 ((rd_T42 t225 x30_1).f1)) := (blk_cell BK229.out 1).trans rfl
                                        have hcz62_2 : wr.cell? ⟨gb229, 2, none⟩ = some (.int .i64 ((rd_T42 t225 x30_1).f2)) := (blk_cell BK229.out 2).trans rfl
                                        have hfz62_0 := blk_frozen BK229.out 0
                                        have hfz62_1 := blk_frozen BK229.out 1
                                        have hfz62_2 := blk_frozen BK229.out 2
                                        obtain ⟨Ao63, co63, eo63⟩ := Kd.R_slice HO_5.out
                                        subst eo63
                                        have p233 : 0 ≤ ((ji57) : Int) := of_decide_eq_true (by first | (with_reducible assumption) | assumption)
                                        have q233 : (ji57) < (x5_3.length : Int) := of_decide_eq_true (by first | (with_reducible assumption) | assumption)
                                        obtain ⟨ad233, e233, hx233_0⟩ := Kd.at_int (Kd.R_reads' HO_5.out).2.2 (ji57) p233 q233
                                        cases e233
                                        replace p233 := eq_true p233
                                        replace q233 := eq_true q233
                                        have p61 : 0 ≤ ((ji57) : Int) := of_decide_eq_true (by first | (with_reducible assumption) | assumption)
                                        have q61 : ((ji57) : Int) < ((x5_3.length : Int) : Int) := of_decide_eq_true (by first | (with_reducible assumption) | assumption)
                                        obtain ⟨go61, co61, eo61, gb61, gl61, cl61, HG61⟩ := Kd.R_form HO_5.out (by omega)
                                        (first | cases eo61 | (injection eo61 with ea_ en_ ec_; (first | subst ea_ | (injection ea_ with ea_; subst ea_)); subst ec_; clear en_))
                                        have GB61 := Aside0.mk gb61
                                        have GG61 := Aside0.mk HG61
                                        clear gb61 gl61 HG61
                                        (first | simp only [add_plain] at hx233_0 | skip)
                                        obtain ⟨hx61_0, hf61_0⟩ := Kd.R_celln 0 HO_5.out ((ji57) : Int) p61 q61
                                        replace p61 := eq_true p61
                                        replace q61 := eq_true q61
                                        have HP64 := Kd.R_putg HO_5.out ((ji57) : Int) 2
                                        go_wp2_with (first | ((with_reducible refine gate_store (t := 3) (p := 121) rfl ?_); refine store_event (t := 3) (p := 121) (v := ?vo_w65) (w1 := (wr.setCell ⟨go61, ((ji57) : Int).toNat, none⟩ (.int .i64 2))) ?hg ?ho ?hn ?hr ?_; (case ho => rfl); (case hg => rfl); (case hn => rfl); (case hr => first | (go_simp; done) | (go_simp; rfl)); intro w65 hw; have hg : wr.grownBy w65 (some go61) := (by rw [hw]; exact HP64.2); have hp_ : Kd.R (Kd.int .i64) 3 w65 w.heap.size (fun _ => True) (.slice (some ⟨go61, 0, none⟩) x5_3.length co63) y234 := (by rw [hw, Ny234.out]; exact HP64.1); clear HP64; have n0_ := Aside0.mk (Kd.R_over' (v := (.slice (some ⟨go61, 0, none⟩) x5_3.length co63)) (by (with_reducible repeat (first | apply Kd.R_alloc | apply Kd.R_drewN | apply Kd.R_drew)); exact HO_4.out) (Kd.R_typed HO_5.out) (by decide) hg); have n1_ := Aside0.mk (hp_); have n2_ := Aside0.mk (Kd.R_over' (v := (.slice (some ⟨go61, 0, none⟩) x5_3.length co63)) (by (with_reducible repeat (first | apply Kd.R_alloc | apply Kd.R_drewN | apply Kd.R_drew)); exact HO_28.out) (Kd.R_typed HO_5.out) (by decide) hg); have n3_ := Aside0.mk (blk_grown (g := gb229) (o := .cells #[.int .i64 ((rd_T42 t225 x30_1).f0), .int .i64 ((rd_T42 t225 x30_1).f1), .int .i64 ((rd_T42 t225 x30_1).f2)] 42 (0, 0)) (by (with_reducible repeat (first | refine blk_drewN ?_ _ | refine blk_drew ?_ | refine blk_alloc ?_ _)); exact BK229.out) hg (Kd.R_ne HO_5.out BK229.out (by decide))); have n4_ := Aside0.mk ((by rw [hw]; exact below_set (HB.out) GB61.out : Below w.heap.size w w65)); clear HO_4; clear HO_5; clear HO_28; clear BK229; clear HB; have HO_4 := n0_; have HO_5 := n1_; have HO_28 := n2_; have BK229 := n3_; have HB := n4_; clear n0_ n1_ n2_ n3_ n4_; clear hg hw hp_))
                                        go_roundg k3
                                        case measure => have := HK1.out; have := HJ19.out; have := HK3.out; omega
                                        case rel => exact ⟨(y234), (wrap64 (x8_3 + 1)), (by first | rfl | (simp; done) | (simp [*]; done)), H', ⟨by have := HK1.out; have := HJ19.out; have := HK3.out; omega⟩, ⟨by (with_reducible repeat (first | apply Kd.R_alloc | apply Kd.R_drewN | apply Kd.R_drew)); exact HO_4.out⟩, ⟨by (with_reducible repeat (first | apply Kd.R_alloc | apply Kd.R_drewN | apply Kd.R_drew)); exact HO_5.out⟩, ⟨by (with_reducible repeat (first | apply Kd.R_alloc | apply Kd.R_drewN | apply Kd.R_drew)); exact HO_28.out⟩, ⟨by (with_reducible repeat (first | refine blk_drewN ?_ _ | refine blk_drew ?_ | refine blk_alloc ?_ _)); exact BK229.out⟩, ⟨by repeat (first | (with_reducible first | exact HB.out | apply below_alloc | apply pw_below_drewN | apply below_drew1 | refine below_set ?_ GE229.out) | exact HB.out)⟩⟩
                                      · rw [if_neg c60] at H
                                        have c60b0 : ((rd x5_3 (ji57)) == 0) = false := beq_eq_false_iff_ne.mpr c60
                                        have c60b1 : ((rd x5_3 (ji57)) != 0) = true := bne_iff_ne.mpr c60
                                        obtain rfl := Option.some.inj H
                                        have hcz66_0 : wr.cell? ⟨gb229, 0, none⟩ = some (.int .i64 ((rd_T42 t225 x30_1).f0)) := (blk_cell BK229.out 0).trans rfl
                                        have hcz66_1 : wr.cell? ⟨gb229, 1, none⟩ = some (.int .i64 ((rd_T42 t225 x30_1).f1)) := (blk_cell BK229.out 1).trans rfl
                                        have hcz66_2 : wr.cell? ⟨gb229, 2, none⟩ = some (.int .i64 ((rd_T42 t225 x30_1).f2)) := (blk_cell BK229.out 2).trans rfl
                                        have hfz66_0 := blk_frozen BK229.out 0
                                        have hfz66_1 := blk_frozen BK229.out 1
                                        have hfz66_2 := blk_frozen BK229.out 2
                                        obtain ⟨Ao67, co67, eo67⟩ := Kd.R_slice HO_5.out
                                        subst eo67
                                        have p233 : 0 ≤ ((ji57) : Int) := of_decide_eq_true (by first | (with_reducible assumption) | assumption)
                                        have q233 : (ji57) < (x5_3.length : Int) := of_decide_eq_true (by first | (with_reducible assumption) | assumption)
                                        obtain ⟨ad233, e233, hx233_0⟩ := Kd.at_int (Kd.R_reads' HO_5.out).2.2 (ji57) p233 q233
                                        cases e233
                                        replace p233 := eq_true p233
                                        replace q233 := eq_true q233
                                        go_wp2
                                        go_ret
                                        exact ⟨by first | rfl | (simp [errW_none, errW_some] <;> rfl) | (simp only [← hji6, ← hji57]; first | rfl | (simp [errW_none, errW_some] <;> rfl)) | (simp [*, errW_none, errW_some] <;> rfl), by repeat (first | (with_reducible first | exact HB.out | apply below_alloc | apply pw_below_drewN | apply below_drew1 | refine below_set ?_ GE229.out) | exact HB.out)⟩
                                    · rw [if_neg c59] at H
                                      exact absurd H (by simp)
                                  · rw [if_neg c58] at H
                                    exact absurd H (by simp)
                              · rw [if_neg c54] at H
                                have c54b0 : decide (x8_3 < (wrap64 (Int.tdiv ((rd_T42 t225 x30_1).f2) 32))) = false := decide_eq_false c54
                                clear c54
                                have H' := Aside0.mk H
                                clear H
                                have hcz68_0 : wr.cell? ⟨gb229, 0, none⟩ = some (.int .i64 ((rd_T42 t225 x30_1).f0)) := (blk_cell BK229.out 0).trans rfl
                                have hcz68_1 : wr.cell? ⟨gb229, 1, none⟩ = some (.int .i64 ((rd_T42 t225 x30_1).f1)) := (blk_cell BK229.out 1).trans rfl
                                have hcz68_2 : wr.cell? ⟨gb229, 2, none⟩ = some (.int .i64 ((rd_T42 t225 x30_1).f2)) := (blk_cell BK229.out 2).trans rfl
                                have hfz68_0 := blk_frozen BK229.out 0
                                have hfz68_1 := blk_frozen BK229.out 1
                                have hfz68_2 := blk_frozen BK229.out 2
                                go_wp2
                                go_roundg k3
                                case measure => have := HK1.out; have := HJ19.out; have := HK3.out; omega
                                case rel => exact ⟨(x5_3), (wrap64 (x30_1 + 1)), (by first | rfl | (simp; done) | (simp [*]; done)), H', ⟨by have := HK1.out; have := HJ19.out; have := HK3.out; omega⟩, ⟨by (with_reducible repeat (first | apply Kd.R_alloc | apply Kd.R_drewN | apply Kd.R_drew)); exact HO_4.out⟩, ⟨by (with_reducible repeat (first | apply Kd.R_alloc | apply Kd.R_drewN | apply Kd.R_drew)); exact HO_5.out⟩, ⟨by (with_reducible repeat (first | apply Kd.R_alloc | apply Kd.R_drewN | apply Kd.R_drew)); exact Kd.R_mono HO_28.out (fun _ hk => trivial)⟩, ⟨by repeat (first | (with_reducible first | exact HB.out | apply below_alloc | apply pw_below_drewN | apply below_drew1 | refine below_set ?_ GE229.out) | exact HB.out)⟩⟩
                · rw [if_neg c19] at H
                  exact absurd H (by simp)
              · rw [if_neg c18] at H
                exact absurd H (by simp)
            · rw [if_neg c17] at H
              have c17b0 : decide (x30_1 < (t225.length : Int)) = false := decide_eq_false c17
              clear c17
              replace H := Option.bind_eq_some_iff.mp H
              obtain ⟨t235, A690, H⟩ := H
              replace H : (lockfastlaw11_TileWhole.l2 k1 t218 t219 x5_1 t235 (t235.length : Int) 0) = some r := H
              have A69 := Aside0.mk A690
              clear A690
              have H' := Aside0.mk H
              clear H
              go_wp2_with (first | ((with_reducible refine gate_callee (f := 21) rfl ?_); refine goesL_ (some 124) rfl rfl Tryd.func21 (by kernel_rfl) rfl #[.slice Ao12 t219.length co12] rfl (by (try simp only [List.map_toArray, List.map_cons, List.map_nil]); first | done | rfl | (simp only [List.length_drop, List.length_take]; rfl)) ?_; (with_reducible refine (tile_Rows.calls k1 _ _ t219 t235 _ ?side1 ?side2 A69.out).mono ?_); (case side1 => repeat (first | exact (Kd.R_reads' HO_4.out).2.2 | (with_reducible refine Kd.C_alloc ?_ _) | (with_reducible refine Kd.C_drewN ?_ _) | (with_reducible refine Kd.C_drew ?_))); (case side2 => exact (Kd.R_reads' HO_4.out).2.1); rintro e w70 ⟨v236, rfl, ho0, hb⟩; refine ⟨_, rfl, ?_⟩; have n0_ := Aside0.mk (Kd.R_below (by (with_reducible repeat (first | apply Kd.R_alloc | apply Kd.R_drewN | apply Kd.R_drew)); exact HO_4.out) hb); have n1_ := Aside0.mk (Kd.R_below (by (with_reducible repeat (first | apply Kd.R_alloc | apply Kd.R_drewN | apply Kd.R_drew)); exact HO_5.out) hb); have n2_ := Aside0.mk (Kd.R_below (by (with_reducible repeat (first | apply Kd.R_alloc | apply Kd.R_drewN | apply Kd.R_drew)); exact HO_28.out) hb); have n3_ := Aside0.mk (Kd.R_lower ho0 (below_size (by repeat (first | (with_reducible first | exact HB.out | apply below_alloc | apply pw_below_drewN | apply below_drew1) | exact HB.out)))); have n4_ := Aside0.mk (below_step (by repeat (first | (with_reducible first | exact HB.out | apply below_alloc | apply pw_below_drewN | apply below_drew1) | exact HB.out)) hb); clear HO_4; clear HO_5; clear HO_28; clear HB; have HO_4 := n0_; have HO_5 := n1_; have HO_28 := n2_; have HO237 := n3_; have HB := n4_; clear n0_ n1_ n2_ n3_ n4_; (try clear hb); (try clear hb2); (try clear hk); (try clear hi); (try clear ho0); obtain ⟨Ao71, co71, eo71⟩ := Kd.R_slice HO237.out; subst eo71))
              go_loopg [126] k1 (fun kq v126 w' => ∃ (x5_2 : List Int) (x126_2 : Int), v126 = .int .i64 x126_2 ∧ Aside0 (lockfastlaw11_TileWhole.l2 kq t218 t219 x5_2 t235 (t235.length : Int) x126_2 = some r) ∧ Aside0 (kq ≤ k1) ∧ Aside0 (Kd.R (Kd.int .u64) 27 w' w.heap.size (fun _ => True) (.slice Ao12 t219.length co12) t219) ∧ Aside0 (Kd.R (Kd.int .i64) 3 w' w.heap.size (fun _ => True) v223 x5_2) ∧ Aside0 (Kd.R k36 36 w' w.heap.size (fun _ => True) (.slice Ao71 t235.length co71) t235) ∧ Aside0 (Below w.heap.size w w'))
              case atStart => exact ⟨(x5_1), (0), (by first | rfl | (simp; done) | (simp [*]; done)), H', ⟨Nat.le_refl _⟩, ⟨by (with_reducible repeat (first | apply Kd.R_alloc | apply Kd.R_drewN | apply Kd.R_drew)); exact HO_4.out⟩, ⟨by (with_reducible repeat (first | apply Kd.R_alloc | apply Kd.R_drewN | apply Kd.R_drew)); exact HO_5.out⟩, ⟨by (with_reducible repeat (first | apply Kd.R_alloc | apply Kd.R_drewN | apply Kd.R_drew)); exact HO237.out⟩, ⟨by repeat (first | (with_reducible first | exact HB.out | apply below_alloc | apply pw_below_drewN | apply below_drew1) | exact HB.out)⟩⟩
              case round =>
                clear H'
                try clear c1
                try clear c2
                try clear p2
                try clear q2
                try clear hx2
                try clear c3
                try clear c4
                try clear p4
                try clear q4
                try clear hx4
                try clear hf4
                try clear c5
                try clear c6
                try clear p6
                try clear q6
                try clear hx6
                try clear hf6
                try clear c17
                try clear c17b0
                try clear c18
                try clear c19
                try clear c21
                try clear p23
                try clear q23
                try clear hx23
                try clear c31
                try clear c31b0
                try clear c32
                try clear c33
                try clear c35
                try clear c41
                try clear c41b0
                try clear c45
                try clear c45b0
                try clear p47
                try clear q47
                try clear hx47
                try clear hf47
                try clear c54
                try clear c54b0
                try clear c55
                try clear c55b0
                try clear c58
                try clear c58b0
                try clear c59
                try clear c59b0
                try clear c60
                try clear c60b0
                try clear c60b1
                try clear p61
                try clear q61
                try clear hx61
                try clear hf61
                try clear p64
                try clear hcz48_0
                try clear hcz48_1
                try clear hcz48_2
                try clear hcz53_0
                try clear hcz53_1
                try clear hcz53_2
                try clear hcz56_0
                try clear hcz56_1
                try clear hcz56_2
                try clear hcz62_0
                try clear hcz62_1
                try clear hcz62_2
                try clear hcz66_0
                try clear hcz66_1
                try clear hcz66_2
                try clear hcz68_0
                try clear hcz68_1
                try clear hcz68_2
                try clear hfz42_1
                try clear hfz42_2
                try clear hfz48_0
                try clear hfz48_1
                try clear hfz48_2
                try clear hfz53_0
                try clear hfz53_1
                try clear hfz53_2
                try clear hfz56_0
                try clear hfz56_1
                try clear hfz56_2
                try clear hfz62_0
                try clear hfz62_1
                try clear hfz62_2
                try clear hfz66_0
                try clear hfz66_1
                try clear hfz66_2
                try clear hfz68_0
                try clear hfz68_1
                try clear hfz68_2
                try clear hx230_0
                try clear hx231_0
                try clear hx233_0
                try clear hx47_0
                try clear hx61_0
                try clear p2
                try clear p23
                try clear p230
                try clear p231
                try clear p233
                try clear p4
                try clear p47
                try clear p6
                try clear p61
                try clear q2
                try clear q23
                try clear q230
                try clear q231
                try clear q233
                try clear q4
                try clear q47
                try clear q61
                obtain ⟨x5_2, x126_2, rfl, HA, HK2, HO_4, HO_5, HO_124, HB⟩ := hrel
                cases gk with
                | zero => exact absurd HA.out (by simp [lockfastlaw11_TileWhole.l2])
                | succ k2 =>
                  have H := HA.out
                  clear HA
                  simp only [lockfastlaw11_TileWhole.l2] at H
                  by_cases c72 : x126_2 < (t235.length : Int)
                  · rw [if_pos c72] at H
                    have c72b0 : decide (x126_2 < (t235.length : Int)) = true := decide_eq_true c72
                    clear c72
                    by_cases c73 : 0 ≤ x126_2
                    · rw [if_pos c73] at H
                      have c73b0 : decide (0 ≤ x126_2) = true := decide_eq_true c73
                      clear c73
                      by_cases c74 : x126_2 < (t235.length : Int)
                      · rw [if_pos c74] at H
                        have c74b0 : decide (x126_2 < (t235.length : Int)) = true := decide_eq_true c74
                        clear c74
                        have H' := Aside0.mk H
                        clear H
                        have p238 : 0 ≤ (x126_2 : Int) := of_decide_eq_true (by first | (with_reducible assumption) | assumption)
                        have q238 : x126_2 < (t235.length : Int) := of_decide_eq_true (by first | (with_reducible assumption) | assumption)
                        obtain ⟨ad238, e238, hx238_0, hx238_1⟩ := at_T36 (Kd.R_reads' HO_124.out).2.2 x126_2 p238 q238
                        cases e238
                        replace p238 := eq_true p238
                        replace q238 := eq_true q238
                        go_wp2_with (first | ((with_reducible refine gate_dst (N := 10) rfl ?_); (try (refine gate_guard (by rfl) ?_; dsimp only)); refine box_event ?hg (N := 10) ?hd (cs := #[.int .i64 0, .int .i64 0]) (t := 36) ?hr ?_; (case hd => rfl); (case hg => rfl); (case hr => first | (go_simp; done) | (go_simp; rfl)); intro gb239 hg w75 hbox hb; have n0_ := Aside0.mk (Kd.R_below (by (with_reducible repeat (first | apply Kd.R_alloc | apply Kd.R_drewN | apply Kd.R_drew)); exact HO_4.out) hb); have n1_ := Aside0.mk (Kd.R_below (by (with_reducible repeat (first | apply Kd.R_alloc | apply Kd.R_drewN | apply Kd.R_drew)); exact HO_5.out) hb); have n2_ := Aside0.mk (Kd.R_below (Kd.R_elderB (by (with_reducible repeat (first | apply Kd.R_alloc | apply Kd.R_drewN | apply Kd.R_drew)); exact HO_124.out) gb239 (Nat.le_of_eq hg.symm)) hb); have n3_ := Aside0.mk (below_step (by repeat (first | (with_reducible first | exact HB.out | apply below_alloc | apply pw_below_drewN | apply below_drew1) | exact HB.out)) hb); have n4_ := Aside0.mk (hbox); have n5_ := Aside0.mk ((by rw [hg]; exact (below_size (by repeat (first | (with_reducible first | exact HB.out | apply below_alloc | apply pw_below_drewN | apply below_drew1) | exact HB.out))) : w.heap.size ≤ gb239)); have n6_ := Aside0.mk ((by rw [hg]; exact (below_size (by repeat (first | (with_reducible first | exact HB.out | apply below_alloc | apply pw_below_drewN | apply below_drew1) | exact HB.out))) : w.heap.size ≤ gb239)); clear HO_4; clear HO_5; clear HO_124; clear HB; have HO_4 := n0_; have HO_5 := n1_; have HO_124 := n2_; have HB := n3_; have BK239 := n4_; have GW239 := n5_; have GE239 := n6_; clear n0_ n1_ n2_ n3_ n4_ n5_ n6_; clear hb hbox hg; have hcz76_0 : w75.cell? ⟨gb239, 0, none⟩ = some (.int .i64 0) := (blk_cell BK239.out 0).trans rfl; have hcz76_1 : w75.cell? ⟨gb239, 1, none⟩ = some (.int .i64 0) := (blk_cell BK239.out 1).trans rfl; have hfz76_0 := blk_frozen BK239.out 0; have hfz76_1 := blk_frozen BK239.out 1))
                        go_loopg [11] k2 (fun kq v11 w' => ∃ (x5_3 : List Int) (x11_3 : Int), v11 = .int .i64 x11_3 ∧ Aside0 (lockfastlaw11_TileWhole.l3 kq t218 t219 x5_3 x11_3 t235 (t235.length : Int) x126_2 ((rd_T36 t235 x126_2).f0) ((rd_T36 t235 x126_2).f1) = some r) ∧ Aside0 (kq ≤ k2) ∧ Aside0 (Kd.R (Kd.int .u64) 27 w' w.heap.size (fun _ => True) (.slice Ao12 t219.length co12) t219) ∧ Aside0 (Kd.R (Kd.int .i64) 3 w' w.heap.size (fun _ => True) v223 x5_3) ∧ Aside0 (Kd.R k36 36 w' w.heap.size (fun k_ => k_ ≠ gb239) (.slice (some ad238) t235.length co71) t235) ∧ Aside0 (w'.heap[gb239]? = some (.cells #[.int .i64 ((rd_T36 t235 x126_2).f0), .int .i64 ((rd_T36 t235 x126_2).f1)] 36 (0, 0))) ∧ Aside0 (Below w.heap.size w w'))
                        case atStart => exact ⟨(x5_2), (0), (by first | rfl | (simp; done) | (simp [*]; done)), H', ⟨Nat.le_refl _⟩, ⟨by (with_reducible repeat (first | apply Kd.R_alloc | apply Kd.R_drewN | apply Kd.R_drew)); exact Kd.R_mono (Kd.R_far (p := ⟨gb239, 1, none⟩) (Kd.R_far (p := ⟨gb239, 0, none⟩) (Kd.R_types HO_4.out BK239.out (by decide)) (fun _ hk => hk.2) (.int .i64 ((rd_T36 t235 x126_2).f0))) (fun _ hk => hk.2) (.int .i64 ((rd_T36 t235 x126_2).f1))) (fun _ hk => trivial)⟩, ⟨by (with_reducible repeat (first | apply Kd.R_alloc | apply Kd.R_drewN | apply Kd.R_drew)); exact Kd.R_mono (Kd.R_far (p := ⟨gb239, 1, none⟩) (Kd.R_far (p := ⟨gb239, 0, none⟩) (Kd.R_types HO_5.out BK239.out (by decide)) (fun _ hk => hk.2) (.int .i64 ((rd_T36 t235 x126_2).f0))) (fun _ hk => hk.2) (.int .i64 ((rd_T36 t235 x126_2).f1))) (fun _ hk => trivial)⟩, ⟨by (with_reducible repeat (first | apply Kd.R_alloc | apply Kd.R_drewN | apply Kd.R_drew)); exact Kd.R_mono (Kd.R_far (p := ⟨gb239, 1, none⟩) (Kd.R_far (p := ⟨gb239, 0, none⟩) (Kd.R_mono HO_124.out (fun k_ hk => (⟨hk, hk.2⟩ : _ ∧ k_ ≠ gb239))) (fun _ hk => hk.2) (.int .i64 ((rd_T36 t235 x126_2).f0))) (fun _ hk => hk.2) (.int .i64 ((rd_T36 t235 x126_2).f1))) (fun _ hk => hk.1.2)⟩, ⟨by (with_reducible repeat (first | refine blk_drewN ?_ _ | refine blk_drew ?_ | refine blk_alloc ?_ _)); refine blk_put (cs := #[.int .i64 ((rd_T36 t235 x126_2).f0), .int .i64 0]) ?_ 1 _ rfl; (with_reducible repeat (first | refine blk_drewN ?_ _ | refine blk_drew ?_ | refine blk_alloc ?_ _)); refine blk_put (cs := #[.int .i64 0, .int .i64 0]) ?_ 0 _ rfl; (with_reducible repeat (first | refine blk_drewN ?_ _ | refine blk_drew ?_ | refine blk_alloc ?_ _)); exact BK239.out⟩, ⟨by repeat (first | (with_reducible first | exact HB.out | apply below_alloc | apply pw_below_drewN | apply below_drew1 | refine below_set ?_ GE239.out) | exact HB.out)⟩⟩
                        case round =>
                          clear H'
                          try clear c1
                          try clear c2
                          try clear p2
                          try clear q2
                          try clear hx2
                          try clear c3
                          try clear c4
                          try clear p4
                          try clear q4
                          try clear hx4
                          try clear hf4
                          try clear c5
                          try clear c6
                          try clear p6
                          try clear q6
                          try clear hx6
                          try clear hf6
                          try clear c7
                          try clear c17
                          try clear c17b0
                          try clear c18
                          try clear c19
                          try clear c21
                          try clear p23
                          try clear q23
                          try clear hx23
                          try clear c31
                          try clear c31b0
                          try clear c32
                          try clear c33
                          try clear c35
                          try clear c41
                          try clear c41b0
                          try clear c45
                          try clear c45b0
                          try clear p47
                          try clear q47
                          try clear hx47
                          try clear hf47
                          try clear c54
                          try clear c54b0
                          try clear c55
                          try clear c55b0
                          try clear c58
                          try clear c58b0
                          try clear c59
                          try clear c59b0
                          try clear c60
                          try clear c60b0
                          try clear c60b1
                          try clear p61
                          try clear q61
                          try clear hx61
                          try clear hf61
                          try clear p64
                          try clear c72
                          try clear c72b0
                          try clear c73
                          try clear c73b0
                          try clear c74
                          try clear c74b0
                          try clear hcz48_0
                          try clear hcz48_1
                          try clear hcz48_2
                          try clear hcz53_0
                          try clear hcz53_1
                          try clear hcz53_2
                          try clear hcz56_0
                          try clear hcz56_1
                          try clear hcz56_2
                          try clear hcz62_0
                          try clear hcz62_1
                          try clear hcz62_2
                          try clear hcz66_0
                          try clear hcz66_1
                          try clear hcz66_2
                          try clear hcz68_0
                          try clear hcz68_1
                          try clear hcz68_2
                          try clear hcz76_0
                          try clear hcz76_1
                          try clear hfz42_1
                          try clear hfz42_2
                          try clear hfz48_0
                          try clear hfz48_1
                          try clear hfz48_2
                          try clear hfz53_0
                          try clear hfz53_1
                          try clear hfz53_2
                          try clear hfz56_0
                          try clear hfz56_1
                          try clear hfz56_2
                          try clear hfz62_0
                          try clear hfz62_1
                          try clear hfz62_2
                          try clear hfz66_0
                          try clear hfz66_1
                          try clear hfz66_2
                          try clear hfz68_0
                          try clear hfz68_1
                          try clear hfz68_2
                          try clear hfz76_0
                          try clear hfz76_1
                          try clear hx230_0
                          try clear hx231_0
                          try clear hx233_0
                          try clear hx238_0
                          try clear hx238_1
                          try clear hx47_0
                          try clear hx61_0
                          try clear p2
                          try clear p23
                          try clear p230
                          try clear p231
                          try clear p233
                          try clear p238
                          try clear p4
                          try clear p47
                          try clear p6
                          try clear p61
                          try clear p64
                          try clear q2
                          try clear q23
                          try clear q230
                          try clear q231
                          try clear q233
                          try clear q238
                          try clear q4
                          try clear q47
                          try clear q6
                          try clear q61
                          obtain ⟨x5_3, x11_3, rfl, HA, HK3, HO_4, HO_5, HO_124, BK239, HB⟩ := hrel
                          cases gk with
                          | zero => exact absurd HA.out (by simp [lockfastlaw11_TileWhole.l3])
                          | succ k3 =>
                            have H := HA.out
                            clear HA
                            simp only [lockfastlaw11_TileWhole.l3] at H
                            by_cases c77 : x11_3 < ((rd_T36 t235 x126_2).f1)
                            · rw [if_pos c77] at H
                              have c77b0 : decide (x11_3 < ((rd_T36 t235 x126_2).f1)) = true := decide_eq_true c77
                              clear c77
                              by_cases c78 : ((rd_T36 t235 x126_2).f0) < 0
                              · rw [if_pos c78] at H
                                have c78b0 : decide (((rd_T36 t235 x126_2).f0) < 0) = true := decide_eq_true c78
                                clear c78
                                obtain rfl := Option.some.inj H
                                have hcz79_0 : wr.cell? ⟨gb239, 0, none⟩ = some (.int .i64 ((rd_T36 t235 x126_2).f0)) := (blk_cell BK239.out 0).trans rfl
                                have hcz79_1 : wr.cell? ⟨gb239, 1, none⟩ = some (.int .i64 ((rd_T36 t235 x126_2).f1)) := (blk_cell BK239.out 1).trans rfl
                                have hfz79_0 := blk_frozen BK239.out 0
                                have hfz79_1 := blk_frozen BK239.out 1
                                go_wp2
                                go_ret
                                exact ⟨by first | rfl | (simp [errW_none, errW_some] <;> rfl) | (simp only [← hji6]; first | rfl | (simp [errW_none, errW_some] <;> rfl)) | (simp [*, errW_none, errW_some] <;> rfl), by repeat (first | (with_reducible first | exact HB.out | apply below_alloc | apply pw_below_drewN | apply below_drew1 | refine below_set ?_ GE239.out) | exact HB.out)⟩
                              · rw [if_neg c78] at H
                                have c78b0 : decide (((rd_T36 t235 x126_2).f0) < 0) = false := decide_eq_false c78
                                clear c78
                                by_cases c80 : (wrap64 (((rd_T36 t235 x126_2).f0) + x11_3)) ≥ (t219.length : Int)
                                · rw [if_pos c80] at H
                                  have c80b0 : decide ((t219.length : Int) ≤ (wrap64 (((rd_T36 t235 x126_2).f0) + x11_3))) = true := decide_eq_true c80
                                  clear c80
                                  obtain rfl := Option.some.inj H
                                  have hcz81_0 : wr.cell? ⟨gb239, 0, none⟩ = some (.int .i64 ((rd_T36 t235 x126_2).f0)) := (blk_cell BK239.out 0).trans rfl
                                  have hcz81_1 : wr.cell? ⟨gb239, 1, none⟩ = some (.int .i64 ((rd_T36 t235 x126_2).f1)) := (blk_cell BK239.out 1).trans rfl
                                  have hfz81_0 := blk_frozen BK239.out 0
                                  have hfz81_1 := blk_frozen BK239.out 1
                                  go_wp2
                                  go_ret
                                  exact ⟨by first | rfl | (simp [errW_none, errW_some] <;> rfl) | (simp only [← hji6]; first | rfl | (simp [errW_none, errW_some] <;> rfl)) | (simp [*, errW_none, errW_some] <;> rfl), by repeat (first | (with_reducible first | exact HB.out | apply below_alloc | apply pw_below_drewN | apply below_drew1 | refine below_set ?_ GE239.out) | exact HB.out)⟩
                                · rw [if_neg c80] at H
                                  have c80b0 : decide ((t219.length : Int) ≤ (wrap64 (((rd_T36 t235 x126_2).f0) + x11_3))) = false := decide_eq_false c80
                                  clear c80
                                  obtain ⟨ji82, hji82⟩ : ∃ j_ : Int, (wrap64 (((rd_T36 t235 x126_2).f0) + x11_3)) = j_ := ⟨_, rfl⟩
                                  replace H : (if 0 ≤ (ji82) then (if (ji82) < (x5_3.length : Int) then (if (rd x5_3 (ji82)) = 0 then (lockfastlaw11_TileWhole.l3 k3 t218 t219 (x5_3.set ((ji82) : Int).toNat 4) (wrap64 (x11_3 + 1)) t235 (t235.length : Int) x126_2 ((rd_T36 t235 x126_2).f0) ((rd_T36 t235 x126_2).f1)) else (some false)) else (none)) else (none)) = some r := by first | (rw [hji82] at H; exact H) | (simp only [hji82] at H ⊢; exact H)
                                  (try rw [hji82] at c80b0)
                                  have hji82w : (IntKind.i64.wrap (((rd_T36 t235 x126_2).f0) + x11_3)) = ji82 := (i64_w _).trans hji82
                                  by_cases c83 : 0 ≤ (ji82)
                                  · rw [if_pos c83] at H
                                    have c83b0 : decide (0 ≤ (ji82)) = true := decide_eq_true c83
                                    clear c83
                                    by_cases c84 : (ji82) < (x5_3.length : Int)
                                    · rw [if_pos c84] at H
                                      have c84b0 : decide ((ji82) < (x5_3.length : Int)) = true := decide_eq_true c84
                                      clear c84
                                      by_cases c85 : (rd x5_3 (ji82)) = 0
                                      · rw [if_pos c85] at H
                                        have c85b0 : ((rd x5_3 (ji82)) == 0) = true := beq_iff_eq.mpr c85
                                        have c85b1 : ((rd x5_3 (ji82)) != 0) = false := bne_eq_false_iff_eq.mpr c85
                                        clear c85
                                        obtain ⟨y241, hy241⟩ : ∃ y_ : List Int, y_ = (x5_3.set ((ji82) : Int).toNat 4) := ⟨_, rfl⟩
                                        replace H : (lockfastlaw11_TileWhole.l3 k3 t218 t219 y241 (wrap64 (x11_3 + 1)) t235 (t235.length : Int) x126_2 ((rd_T36 t235 x126_2).f0) ((rd_T36 t235 x126_2).f1)) = some r := by first | (rw [hy241]; with_reducible exact H) | (have H2_ := (Option.bind_some _ _).symm.trans H; rw [hy241]; with_reducible exact H2_) | (have H2_ := (Option.bind_some _ _).symm.trans H; with_reducible exact H2_) | with_reducible exact H | (rw [hy241]; exact H) | exact H
                                        have Ny241 := Aside0.mk hy241
                                        clear hy241
                                        have H' := Aside0.mk H
                                        clear H
                                        have hcz87_0 : wr.cell? ⟨gb239, 0, none⟩ = some (.int .i64 ((rd_T36 t235 x126_2).f0)) := (blk_cell BK239.out 0).trans rfl
                                        have hcz87_1 : wr.cell? ⟨gb239, 1, none⟩ = some (.int .i64 ((rd_T36 t235 x126_2).f1)) := (blk_cell BK239.out 1).trans rfl
                                        have hfz87_0 := blk_frozen BK239.out 0
                                        have hfz87_1 := blk_frozen BK239.out 1
                                        obtain ⟨Ao88, co88, eo88⟩ := Kd.R_slice HO_5.out
                                        subst eo88
                                        have p240 : 0 ≤ ((ji82) : Int) := of_decide_eq_true (by first | (with_reducible assumption) | assumption)
                                        have q240 : (ji82) < (x5_3.length : Int) := of_decide_eq_true (by first | (with_reducible assumption) | assumption)
                                        obtain ⟨ad240, e240, hx240_0⟩ := Kd.at_int (Kd.R_reads' HO_5.out).2.2 (ji82) p240 q240
                                        cases e240
                                        replace p240 := eq_true p240
                                        replace q240 := eq_true q240
                                        have p86 : 0 ≤ ((ji82) : Int) := of_decide_eq_true (by first | (with_reducible assumption) | assumption)
                                        have q86 : ((ji82) : Int) < ((x5_3.length : Int) : Int) := of_decide_eq_true (by first | (with_reducible assumption) | assumption)
                                        obtain ⟨go86, co86, eo86, gb86, gl86, cl86, HG86⟩ := Kd.R_form HO_5.out (by omega)
                                        (first | cases eo86 | (injection eo86 with ea_ en_ ec_; (first | subst ea_ | (injection ea_ with ea_; subst ea_)); subst ec_; clear en_))
                                        have GB86 := Aside0.mk gb86
                                        have GG86 := Aside0.mk HG86
                                        clear gb86 gl86 HG86
                                        (first | simp only [add_plain] at hx240_0 | skip)
                                        obtain ⟨hx86_0, hf86_0⟩ := Kd.R_celln 0 HO_5.out ((ji82) : Int) p86 q86
                                        replace p86 := eq_true p86
                                        replace q86 := eq_true q86
                                        have HP89 := Kd.R_putg HO_5.out ((ji82) : Int) 4
                                        go_wp2_with (first | ((with_reducible refine gate_store (t := 3) (p := 163) rfl ?_); refine store_event (t := 3) (p := 163) (v := ?vo_w90) (w1 := (wr.setCell ⟨go86, ((ji82) : Int).toNat, none⟩ (.int .i64 4))) ?hg ?ho ?hn ?hr ?_; (case ho => rfl); (case hg => rfl); (case hn => rfl); (case hr => first | (go_simp; done) | (go_simp; rfl)); intro w90 hw; have hg : wr.grownBy w90 (some go86) := (by rw [hw]; exact HP89.2); have hp_ : Kd.R (Kd.int .i64) 3 w90 w.heap.size (fun _ => True) (.slice (some ⟨go86, 0, none⟩) x5_3.length co88) y241 := (by rw [hw, Ny241.out]; exact HP89.1); clear HP89; have n0_ := Aside0.mk (Kd.R_over' (v := (.slice (some ⟨go86, 0, none⟩) x5_3.length co88)) (by (with_reducible repeat (first | apply Kd.R_alloc | apply Kd.R_drewN | apply Kd.R_drew)); exact HO_4.out) (Kd.R_typed HO_5.out) (by decide) hg); have n1_ := Aside0.mk (hp_); have n2_ := Aside0.mk (Kd.R_over' (v := (.slice (some ⟨go86, 0, none⟩) x5_3.length co88)) (by (with_reducible repeat (first | apply Kd.R_alloc | apply Kd.R_drewN | apply Kd.R_drew)); exact HO_124.out) (Kd.R_typed HO_5.out) (by decide) hg); have n3_ := Aside0.mk (blk_grown (g := gb239) (o := .cells #[.int .i64 ((rd_T36 t235 x126_2).f0), .int .i64 ((rd_T36 t235 x126_2).f1)] 36 (0, 0)) (by (with_reducible repeat (first | refine blk_drewN ?_ _ | refine blk_drew ?_ | refine blk_alloc ?_ _)); exact BK239.out) hg (Kd.R_ne HO_5.out BK239.out (by decide))); have n4_ := Aside0.mk ((by rw [hw]; exact below_set (HB.out) GB86.out : Below w.heap.size w w90)); clear HO_4; clear HO_5; clear HO_124; clear BK239; clear HB; have HO_4 := n0_; have HO_5 := n1_; have HO_124 := n2_; have BK239 := n3_; have HB := n4_; clear n0_ n1_ n2_ n3_ n4_; clear hg hw hp_))
                                        go_roundg k3
                                        case measure => have := HK1.out; have := HK2.out; have := HK3.out; omega
                                        case rel => exact ⟨(y241), (wrap64 (x11_3 + 1)), (by first | rfl | (simp; done) | (simp [*]; done)), H', ⟨by have := HK1.out; have := HK2.out; have := HK3.out; omega⟩, ⟨by (with_reducible repeat (first | apply Kd.R_alloc | apply Kd.R_drewN | apply Kd.R_drew)); exact HO_4.out⟩, ⟨by (with_reducible repeat (first | apply Kd.R_alloc | apply Kd.R_drewN | apply Kd.R_drew)); exact HO_5.out⟩, ⟨by (with_reducible repeat (first | apply Kd.R_alloc | apply Kd.R_drewN | apply Kd.R_drew)); exact HO_124.out⟩, ⟨by (with_reducible repeat (first | refine blk_drewN ?_ _ | refine blk_drew ?_ | refine blk_alloc ?_ _)); exact BK239.out⟩, ⟨by repeat (first | (with_reducible first | exact HB.out | apply below_alloc | apply pw_below_drewN | apply below_drew1 | refine below_set ?_ GE239.out) | exact HB.out)⟩⟩
                                      · rw [if_neg c85] at H
                                        have c85b0 : ((rd x5_3 (ji82)) == 0) = false := beq_eq_false_iff_ne.mpr c85
                                        have c85b1 : ((rd x5_3 (ji82)) != 0) = true := bne_iff_ne.mpr c85
                                        obtain rfl := Option.some.inj H
                                        have hcz91_0 : wr.cell? ⟨gb239, 0, none⟩ = some (.int .i64 ((rd_T36 t235 x126_2).f0)) := (blk_cell BK239.out 0).trans rfl
                                        have hcz91_1 : wr.cell? ⟨gb239, 1, none⟩ = some (.int .i64 ((rd_T36 t235 x126_2).f1)) := (blk_cell BK239.out 1).trans rfl
                                        have hfz91_0 := blk_frozen BK239.out 0
                                        have hfz91_1 := blk_frozen BK239.out 1
                                        obtain ⟨Ao92, co92, eo92⟩ := Kd.R_slice HO_5.out
                                        subst eo92
                                        have p240 : 0 ≤ ((ji82) : Int) := of_decide_eq_true (by first | (with_reducible assumption) | assumption)
                                        have q240 : (ji82) < (x5_3.length : Int) := of_decide_eq_true (by first | (with_reducible assumption) | assumption)
                                        obtain ⟨ad240, e240, hx240_0⟩ := Kd.at_int (Kd.R_reads' HO_5.out).2.2 (ji82) p240 q240
                                        cases e240
                                        replace p240 := eq_true p240
                                        replace q240 := eq_true q240
                                        go_wp2
                                        go_ret
                                        exact ⟨by first | rfl | (simp [errW_none, errW_some] <;> rfl) | (simp only [← hji6, ← hji82]; first | rfl | (simp [errW_none, errW_some] <;> rfl)) | (simp [*, errW_none, errW_some] <;> rfl), by repeat (first | (with_reducible first | exact HB.out | apply below_alloc | apply pw_below_drewN | apply below_drew1 | refine below_set ?_ GE239.out) | exact HB.out)⟩
                                    · rw [if_neg c84] at H
                                      exact absurd H (by simp)
                                  · rw [if_neg c83] at H
                                    exact absurd H (by simp)
                            · rw [if_neg c77] at H
                              have c77b0 : decide (x11_3 < ((rd_T36 t235 x126_2).f1)) = false := decide_eq_false c77
                              clear c77
                              have H' := Aside0.mk H
                              clear H
                              have hcz93_0 : wr.cell? ⟨gb239, 0, none⟩ = some (.int .i64 ((rd_T36 t235 x126_2).f0)) := (blk_cell BK239.out 0).trans rfl
                              have hcz93_1 : wr.cell? ⟨gb239, 1, none⟩ = some (.int .i64 ((rd_T36 t235 x126_2).f1)) := (blk_cell BK239.out 1).trans rfl
                              have hfz93_0 := blk_frozen BK239.out 0
                              have hfz93_1 := blk_frozen BK239.out 1
                              go_wp2
                              go_roundg k3
                              case measure => have := HK1.out; have := HK2.out; have := HK3.out; omega
                              case rel => exact ⟨(x5_3), (wrap64 (x126_2 + 1)), (by first | rfl | (simp; done) | (simp [*]; done)), H', ⟨by have := HK1.out; have := HK2.out; have := HK3.out; omega⟩, ⟨by (with_reducible repeat (first | apply Kd.R_alloc | apply Kd.R_drewN | apply Kd.R_drew)); exact HO_4.out⟩, ⟨by (with_reducible repeat (first | apply Kd.R_alloc | apply Kd.R_drewN | apply Kd.R_drew)); exact HO_5.out⟩, ⟨by (with_reducible repeat (first | apply Kd.R_alloc | apply Kd.R_drewN | apply Kd.R_drew)); exact Kd.R_mono HO_124.out (fun _ hk => trivial)⟩, ⟨by repeat (first | (with_reducible first | exact HB.out | apply below_alloc | apply pw_below_drewN | apply below_drew1 | refine below_set ?_ GE239.out) | exact HB.out)⟩⟩
                      · rw [if_neg c74] at H
                        exact absurd H (by simp)
                    · rw [if_neg c73] at H
                      exact absurd H (by simp)
                  · rw [if_neg c72] at H
                    have c72b0 : decide (x126_2 < (t235.length : Int)) = false := decide_eq_false c72
                    clear c72
                    have H' := Aside0.mk H
                    clear H
                    go_wp2
                    go_loopg [12] k2 (fun kq v12 w' => ∃ (x5_3 : List Int) (x12_3 : Int), v12 = .int .i64 x12_3 ∧ Aside0 (lockfastlaw11_TileWhole.l4 kq t218 t219 x5_3 x12_3 = some r) ∧ Aside0 (kq ≤ k2) ∧ Aside0 (Kd.R (Kd.int .u64) 27 w' w.heap.size (fun _ => True) (.slice Ao12 t219.length co12) t219) ∧ Aside0 (Kd.R (Kd.int .i64) 3 w' w.heap.size (fun _ => True) v223 x5_3) ∧ Aside0 (Below w.heap.size w w'))
                    case atStart => exact ⟨(x5_2), (0), (by first | rfl | (simp; done) | (simp [*]; done)), H', ⟨Nat.le_refl _⟩, ⟨by (with_reducible repeat (first | apply Kd.R_alloc | apply Kd.R_drewN | apply Kd.R_drew)); exact HO_4.out⟩, ⟨by (with_reducible repeat (first | apply Kd.R_alloc | apply Kd.R_drewN | apply Kd.R_drew)); exact HO_5.out⟩, ⟨by repeat (first | (with_reducible first | exact HB.out | apply below_alloc | apply pw_below_drewN | apply below_drew1) | exact HB.out)⟩⟩
                    case round =>
                      clear H'
                      try clear c1
                      try clear c2
                      try clear p2
                      try clear q2
                      try clear hx2
                      try clear c3
                      try clear c4
                      try clear p4
                      try clear q4
                      try clear hx4
                      try clear hf4
                      try clear c5
                      try clear c6
                      try clear p6
                      try clear q6
                      try clear hx6
                      try clear hf6
                      try clear c7
                      try clear c8
                      try clear p8
                      try clear q8
                      try clear hx8
                      try clear hf8
                      try clear c17
                      try clear c17b0
                      try clear c18
                      try clear c19
                      try clear c21
                      try clear p23
                      try clear q23
                      try clear hx23
                      try clear p24
                      try clear q24
                      try clear hx24
                      try clear c31
                      try clear c31b0
                      try clear c32
                      try clear c33
                      try clear c35
                      try clear c41
                      try clear c41b0
                      try clear c45
                      try clear c45b0
                      try clear p47
                      try clear q47
                      try clear hx47
                      try clear hf47
                      try clear c54
                      try clear c54b0
                      try clear c55
                      try clear c55b0
                      try clear c58
                      try clear c58b0
                      try clear c59
                      try clear c59b0
                      try clear c60
                      try clear c60b0
                      try clear c60b1
                      try clear p61
                      try clear q61
                      try clear hx61
                      try clear hf61
                      try clear p64
                      try clear c72
                      try clear c72b0
                      try clear c73
                      try clear c73b0
                      try clear c74
                      try clear c74b0
                      try clear c77
                      try clear c77b0
                      try clear c78
                      try clear c78b0
                      try clear c80
                      try clear c80b0
                      try clear c83
                      try clear c83b0
                      try clear c84
                      try clear c84b0
                      try clear c85
                      try clear c85b0
                      try clear c85b1
                      try clear p86
                      try clear q86
                      try clear hx86
                      try clear hf86
                      try clear hcz48_0
                      try clear hcz48_1
                      try clear hcz48_2
                      try clear hcz53_0
                      try clear hcz53_1
                      try clear hcz53_2
                      try clear hcz56_0
                      try clear hcz56_1
                      try clear hcz56_2
                      try clear hcz62_0
                      try clear hcz62_1
                      try clear hcz62_2
                      try clear hcz66_0
                      try clear hcz66_1
                      try clear hcz66_2
                      try clear hcz68_0
                      try clear hcz68_1
                      try clear hcz68_2
                      try clear hcz76_0
                      try clear hcz76_1
                      try clear hcz79_0
                      try clear hcz79_1
                      try clear hcz81_0
                      try clear hcz81_1
                      try clear hcz87_0
                      try clear hcz87_1
                      try clear hcz91_0
                      try clear hcz91_1
                      try clear hcz93_0
                      try clear hcz93_1
                      try clear hfz42_1
                      try clear hfz42_2
                      try clear hfz48_0
                      try clear hfz48_1
                      try clear hfz48_2
                      try clear hfz53_0
                      try clear hfz53_1
                      try clear hfz53_2
                      try clear hfz56_0
                      try clear hfz56_1
                      try clear hfz56_2
                      try clear hfz62_0
                      try clear hfz62_1
                      try clear hfz62_2
                      try clear hfz66_0
                      try clear hfz66_1
                      try clear hfz66_2
                      try clear hfz68_0
                      try clear hfz68_1
                      try clear hfz68_2
                      try clear hfz76_0
                      try clear hfz76_1
                      try clear hfz79_0
                      try clear hfz79_1
                      try clear hfz81_0
                      try clear hfz81_1
                      try clear hfz87_0
                      try clear hfz87_1
                      try clear hfz91_0
                      try clear hfz91_1
                      try clear hfz93_0
                      try clear hfz93_1
                      try clear hx230_0
                      try clear hx231_0
                      try clear hx233_0
                      try clear hx238_0
                      try clear hx238_1
                      try clear hx240_0
                      try clear hx47_0
                      try clear hx61_0
                      try clear hx86_0
                      try clear p2
                      try clear p23
                      try clear p230
                      try clear p231
                      try clear p233
                      try clear p238
                      try clear p240
                      try clear p4
                      try clear p47
                      try clear p6
                      try clear p61
                      try clear p64
                      try clear p86
                      try clear q2
                      try clear q23
                      try clear q230
                      try clear q231
                      try clear q233
                      try clear q238
                      try clear q240
                      try clear q4
                      try clear q47
                      try clear q6
                      try clear q61
                      try clear q86
                      obtain ⟨x5_3, x12_3, rfl, HA, HK3, HO_4, HO_5, HB⟩ := hrel
                      cases gk with
                      | zero => exact absurd HA.out (by simp [lockfastlaw11_TileWhole.l4])
                      | succ k3 =>
                        have H := HA.out
                        clear HA
                        simp only [lockfastlaw11_TileWhole.l4] at H
                        by_cases c94 : x12_3 < 64
                        · rw [if_pos c94] at H
                          have c94b0 : decide (x12_3 < 64) = true := decide_eq_true c94
                          clear c94
                          replace H := Option.bind_eq_some_iff.mp H
                          obtain ⟨t242, A950, H⟩ := H
                          replace H : (lockfastlaw11_TileWhole.l5 k3 t218 t219 x5_3 x12_3 t242 (t242.length : Int) 0) = some r := H
                          have A95 := Aside0.mk A950
                          clear A950
                          have H' := Aside0.mk H
                          clear H
                          go_wp2_with (first | ((with_reducible refine gate_callee (f := 56) rfl ?_); refine goesL_ (some 171) rfl rfl Tryd.func56 (by kernel_rfl) rfl #[.slice Ao12 t219.length co12, .int .i64 x12_3] rfl (by (try simp only [List.map_toArray, List.map_cons, List.map_nil]); first | done | rfl | (simp only [List.length_drop, List.length_take]; rfl)) ?_; (with_reducible refine (tile_Logs.calls k3 _ _ t219 x12_3 t242 _ ?side1 ?side2 A95.out).mono ?_); (case side1 => repeat (first | exact (Kd.R_reads' HO_4.out).2.2 | (with_reducible refine Kd.C_alloc ?_ _) | (with_reducible refine Kd.C_drewN ?_ _) | (with_reducible refine Kd.C_drew ?_))); (case side2 => exact (Kd.R_reads' HO_4.out).2.1); rintro e w96 ⟨v243, rfl, ho0, hb⟩; refine ⟨_, rfl, ?_⟩; have n0_ := Aside0.mk (Kd.R_below (by (with_reducible repeat (first | apply Kd.R_alloc | apply Kd.R_drewN | apply Kd.R_drew)); exact HO_4.out) hb); have n1_ := Aside0.mk (Kd.R_elder' (by (with_reducible repeat (first | apply Kd.R_alloc | apply Kd.R_drewN | apply Kd.R_drew)); exact HO_5.out) (Kd.R_base ho0) hb); have n2_ := Aside0.mk (Kd.R_lower (Kd.R_new' ho0 (Kd.R_lt (by (with_reducible repeat (first | apply Kd.R_alloc | apply Kd.R_drewN | apply Kd.R_drew)); exact HO_5.out))) (below_size (by repeat (first | (with_reducible first | exact HB.out | apply below_alloc | apply pw_below_drewN | apply below_drew1) | exact HB.out)))); have n3_ := Aside0.mk (below_step (by repeat (first | (with_reducible first | exact HB.out | apply below_alloc | apply pw_below_drewN | apply below_drew1) | exact HB.out)) hb); clear HO_4; clear HO_5; clear HB; have HO_4 := n0_; have HO_5 := n1_; have HO244 := n2_; have HB := n3_; clear n0_ n1_ n2_ n3_; (try clear hb); (try clear hb2); (try clear hk); (try clear hi); (try clear ho0); obtain ⟨Ao97, co97, eo97⟩ := Kd.R_slice HO244.out; subst eo97))
                          go_loopg [173] k3 (fun kq v173 w' => ∃ (x5_4 : List Int) (x173_4 : Int), v173 = .int .i64 x173_4 ∧ Aside0 (lockfastlaw11_TileWhole.l5 kq t218 t219 x5_4 x12_3 t242 (t242.length : Int) x173_4 = some r) ∧ Aside0 (kq ≤ k3) ∧ Aside0 (Kd.R (Kd.int .u64) 27 w' w.heap.size (fun _ => True) (.slice Ao12 t219.length co12) t219) ∧ Aside0 (Kd.R (Kd.int .i64) 3 w' w.heap.size (fun k_ => some k_ ≠ ((.slice Ao97 t242.length co97) : Value).ownBlock) v223 x5_4) ∧ Aside0 (Kd.R (Kd.int .i64) 3 w' w.heap.size (fun k_ => some k_ ≠ (v223 : Value).ownBlock) (.slice Ao97 t242.length co97) t242) ∧ Aside0 (Below w.heap.size w w'))
                          case atStart => exact ⟨(x5_3), (0), (by first | rfl | (simp; done) | (simp [*]; done)), H', ⟨Nat.le_refl _⟩, ⟨by (with_reducible repeat (first | apply Kd.R_alloc | apply Kd.R_drewN | apply Kd.R_drew)); exact HO_4.out⟩, ⟨by (with_reducible repeat (first | apply Kd.R_alloc | apply Kd.R_drewN | apply Kd.R_drew)); exact Kd.R_mono HO_5.out (fun _ hk => hk.2)⟩, ⟨by (with_reducible repeat (first | apply Kd.R_alloc | apply Kd.R_drewN | apply Kd.R_drew)); exact Kd.R_mono HO244.out (fun _ hk => hk.2)⟩, ⟨by repeat (first | (with_reducible first | exact HB.out | apply below_alloc | apply pw_below_drewN | apply below_drew1) | exact HB.out)⟩⟩
                          case round =>
                            clear H'
                            try clear c1
                            try clear c2
                            try clear p2
                            try clear q2
                            try clear hx2
                            try clear c3
                            try clear c4
                            try clear p4
                            try clear q4
                            try clear hx4
                            try clear hf4
                            try clear c5
                            try clear c6
                            try clear p6
                            try clear q6
                            try clear hx6
                            try clear hf6
                            try clear c7
                            try clear c8
                            try clear p8
                            try clear q8
                            try clear hx8
                            try clear hf8
                            try clear c9
                            try clear c17
                            try clear c17b0
                            try clear c18
                            try clear c19
                            try clear c21
                            try clear p23
                            try clear q23
                            try clear hx23
                            try clear p24
                            try clear q24
                            try clear hx24
                            try clear c31
                            try clear c31b0
                            try clear c32
                            try clear c33
                            try clear c35
                            try clear c41
                            try clear c41b0
                            try clear c45
                            try clear c45b0
                            try clear p47
                            try clear q47
                            try clear hx47
                            try clear hf47
                            try clear c54
                            try clear c54b0
                            try clear c55
                            try clear c55b0
                            try clear c56
                            try clear c58
                            try clear c58b0
                            try clear c59
                            try clear c59b0
                            try clear c60
                            try clear c60b0
                            try clear c60b1
                            try clear p61
                            try clear q61
                            try clear hx61
                            try clear hf61
                            try clear p64
                            try clear c72
                            try clear c72b0
                            try clear c73
                            try clear c73b0
                            try clear c74
                            try clear c74b0
                            try clear c77
                            try clear c77b0
                            try clear c78
                            try clear c78b0
                            try clear c80
                            try clear c80b0
                            try clear c83
                            try clear c83b0
                            try clear c84
                            try clear c84b0
                            try clear c85
                            try clear c85b0
                            try clear c85b1
                            try clear p86
                            try clear q86
                            try clear hx86
                            try clear hf86
                            try clear c94
                            try clear c94b0
                            try clear hcz48_0
                            try clear hcz48_1
                            try clear hcz48_2
                            try clear hcz53_0
                            try clear hcz53_1
                            try clear hcz53_2
                            try clear hcz56_0
                            try clear hcz56_1
                            try clear hcz56_2
                            try clear hcz62_0
                            try clear hcz62_1
                            try clear hcz62_2
                            try clear hcz66_0
                            try clear hcz66_1
                            try clear hcz66_2
                            try clear hcz68_0
                            try clear hcz68_1
                            try clear hcz68_2
                            try clear hcz76_0
                            try clear hcz76_1
                            try clear hcz79_0
                            try clear hcz79_1
                            try clear hcz81_0
                            try clear hcz81_1
                            try clear hcz87_0
                            try clear hcz87_1
                            try clear hcz91_0
                            try clear hcz91_1
                            try clear hcz93_0
                            try clear hcz93_1
                            try clear hfz42_1
                            try clear hfz42_2
                            try clear hfz48_0
                            try clear hfz48_1
                            try clear hfz48_2
                            try clear hfz53_0
                            try clear hfz53_1
                            try clear hfz53_2
                            try clear hfz56_0
                            try clear hfz56_1
                            try clear hfz56_2
                            try clear hfz62_0
                            try clear hfz62_1
                            try clear hfz62_2
                            try clear hfz66_0
                            try clear hfz66_1
                            try clear hfz66_2
                            try clear hfz68_0
                            try clear hfz68_1
                            try clear hfz68_2
                            try clear hfz76_0
                            try clear hfz76_1
                            try clear hfz79_0
                            try clear hfz79_1
                            try clear hfz81_0
                            try clear hfz81_1
                            try clear hfz87_0
                            try clear hfz87_1
                            try clear hfz91_0
                            try clear hfz91_1
                            try clear hfz93_0
                            try clear hfz93_1
                            try clear hx230_0
                            try clear hx231_0
                            try clear hx233_0
                            try clear hx238_0
                            try clear hx238_1
                            try clear hx240_0
                            try clear hx47_0
                            try clear hx61_0
                            try clear hx86_0
                            try clear p2
                            try clear p23
                            try clear p230
                            try clear p231
                            try clear p233
                            try clear p238
                            try clear p24
                            try clear p240
                            try clear p4
                            try clear p47
                            try clear p6
                            try clear p61
                            try clear p64
                            try clear p8
                            try clear p86
                            try clear q2
                            try clear q23
                            try clear q230
                            try clear q231
                            try clear q233
                            try clear q238
                            try clear q24
                            try clear q240
                            try clear q4
                            try clear q47
                            try clear q6
                            try clear q61
                            try clear q8
                            try clear q86
                            obtain ⟨x5_4, x173_4, rfl, HA, HK4, HO_4, HO_5, HO_171, HB⟩ := hrel
                            cases gk with
                            | zero => exact absurd HA.out (by simp [lockfastlaw11_TileWhole.l5])
                            | succ k4 =>
                              have H := HA.out
                              clear HA
                              simp only [lockfastlaw11_TileWhole.l5] at H
                              by_cases c98 : x173_4 < (t242.length : Int)
                              · rw [if_pos c98] at H
                                have c98b0 : decide (x173_4 < (t242.length : Int)) = true := decide_eq_true c98
                                clear c98
                                by_cases c99 : 0 ≤ x173_4
                                · rw [if_pos c99] at H
                                  have c99b0 : decide (0 ≤ x173_4) = true := decide_eq_true c99
                                  clear c99
                                  by_cases c100 : x173_4 < (t242.length : Int)
                                  · rw [if_pos c100] at H
                                    have c100b0 : decide (x173_4 < (t242.length : Int)) = true := decide_eq_true c100
                                    clear c100
                                    by_cases c101 : (rd t242 x173_4) < 0
                                    · rw [if_pos c101] at H
                                      have c101b0 : decide ((rd t242 x173_4) < 0) = true := decide_eq_true c101
                                      clear c101
                                      obtain rfl := Option.some.inj H
                                      have p245 : 0 ≤ (x173_4 : Int) := of_decide_eq_true (by first | (with_reducible assumption) | assumption)
                                      have q245 : x173_4 < (t242.length : Int) := of_decide_eq_true (by first | (with_reducible assumption) | assumption)
                                      obtain ⟨ad245, e245, hx245_0⟩ := Kd.at_int (Kd.R_reads' HO_171.out).2.2 x173_4 p245 q245
                                      cases e245
                                      replace p245 := eq_true p245
                                      replace q245 := eq_true q245
                                      go_wp2
                                      go_ret
                                      exact ⟨by first | rfl | (simp [errW_none, errW_some] <;> rfl) | (simp only [← hji6]; first | rfl | (simp [errW_none, errW_some] <;> rfl)) | (simp [*, errW_none, errW_some] <;> rfl), by repeat (first | (with_reducible first | exact HB.out | apply below_alloc | apply pw_below_drewN | apply below_drew1) | exact HB.out)⟩
                                    · rw [if_neg c101] at H
                                      have c101b0 : decide ((rd t242 x173_4) < 0) = false := decide_eq_false c101
                                      clear c101
                                      by_cases c102 : (rd t242 x173_4) ≥ (t219.length : Int)
                                      · rw [if_pos c102] at H
                                        have c102b0 : decide ((t219.length : Int) ≤ (rd t242 x173_4)) = true := decide_eq_true c102
                                        clear c102
                                        obtain rfl := Option.some.inj H
                                        have p245 : 0 ≤ (x173_4 : Int) := of_decide_eq_true (by first | (with_reducible assumption) | assumption)
                                        have q245 : x173_4 < (t242.length : Int) := of_decide_eq_true (by first | (with_reducible assumption) | assumption)
                                        obtain ⟨ad245, e245, hx245_0⟩ := Kd.at_int (Kd.R_reads' HO_171.out).2.2 x173_4 p245 q245
                                        cases e245
                                        replace p245 := eq_true p245
                                        replace q245 := eq_true q245
                                        go_wp2
                                        go_ret
                                        exact ⟨by first | rfl | (simp [errW_none, errW_some] <;> rfl) | (simp only [← hji6]; first | rfl | (simp [errW_none, errW_some] <;> rfl)) | (simp [*, errW_none, errW_some] <;> rfl), by repeat (first | (with_reducible first | exact HB.out | apply below_alloc | apply pw_below_drewN | apply below_drew1) | exact HB.out)⟩
                                      · rw [if_neg c102] at H
                                        have c102b0 : decide ((t219.length : Int) ≤ (rd t242 x173_4)) = false := decide_eq_false c102
                                        clear c102
                                        by_cases c103 : 0 ≤ (rd t242 x173_4)
                                        · rw [if_pos c103] at H
                                          have c103b0 : decide (0 ≤ (rd t242 x173_4)) = true := decide_eq_true c103
                                          clear c103
                                          by_cases c104 : (rd t242 x173_4) < (x5_4.length : Int)
                                          · rw [if_pos c104] at H
                                            have c104b0 : decide ((rd t242 x173_4) < (x5_4.length : Int)) = true := decide_eq_true c104
                                            clear c104
                                            by_cases c105 : (rd x5_4 (rd t242 x173_4)) = 0
                                            · rw [if_pos c105] at H
                                              have c105b0 : ((rd x5_4 (rd t242 x173_4)) == 0) = true := beq_iff_eq.mpr c105
                                              have c105b1 : ((rd x5_4 (rd t242 x173_4)) != 0) = false := bne_eq_false_iff_eq.mpr c105
                                              clear c105
                                              obtain ⟨y247, hy247⟩ : ∃ y_ : List Int, y_ = (x5_4.set ((rd t242 x173_4) : Int).toNat 8) := ⟨_, rfl⟩
                                              replace H : (lockfastlaw11_TileWhole.l5 k4 t218 t219 y247 x12_3 t242 (t242.length : Int) (wrap64 (x173_4 + 1))) = some r := by first | (rw [hy247]; with_reducible exact H) | (have H2_ := (Option.bind_some _ _).symm.trans H; rw [hy247]; with_reducible exact H2_) | (have H2_ := (Option.bind_some _ _).symm.trans H; with_reducible exact H2_) | with_reducible exact H | (rw [hy247]; exact H) | exact H
                                              have Ny247 := Aside0.mk hy247
                                              clear hy247
                                              have H' := Aside0.mk H
                                              clear H
                                              have p245 : 0 ≤ (x173_4 : Int) := of_decide_eq_true (by first | (with_reducible assumption) | assumption)
                                              have q245 : x173_4 < (t242.length : Int) := of_decide_eq_true (by first | (with_reducible assumption) | assumption)
                                              obtain ⟨ad245, e245, hx245_0⟩ := Kd.at_int (Kd.R_reads' HO_171.out).2.2 x173_4 p245 q245
                                              cases e245
                                              replace p245 := eq_true p245
                                              replace q245 := eq_true q245
                                              obtain ⟨Ao107, co107, eo107⟩ := Kd.R_slice HO_5.out
                                              subst eo107
                                              have p246 : 0 ≤ ((rd t242 x173_4) : Int) := of_decide_eq_true (by first | (with_reducible assumption) | assumption)
                                              have q246 : (rd t242 x173_4) < (x5_4.length : Int) := of_decide_eq_true (by first | (with_reducible assumption) | assumption)
                                              obtain ⟨ad246, e246, hx246_0⟩ := Kd.at_int (Kd.R_reads' HO_5.out).2.2 (rd t242 x173_4) p246 q246
                                              cases e246
                                              replace p246 := eq_true p246
                                              replace q246 := eq_true q246
                                              have p106 : 0 ≤ ((rd t242 x173_4) : Int) := of_decide_eq_true (by first | (with_reducible assumption) | assumption)
                                              have q106 : ((rd t242 x173_4) : Int) < ((x5_4.length : Int) : Int) := of_decide_eq_true (by first | (with_reducible assumption) | assumption)
                                              obtain ⟨go106, co106, eo106, gb106, gl106, cl106, HG106⟩ := Kd.R_form HO_5.out (by omega)
                                              (first | cases eo106 | (injection eo106 with ea_ en_ ec_; (first | subst ea_ | (injection ea_ with ea_; subst ea_)); subst ec_; clear en_))
                                              have GB106 := Aside0.mk gb106
                                              have GG106 := Aside0.mk HG106
                                              clear gb106 gl106 HG106
                                              (first | simp only [add_plain] at hx246_0 | skip)
                                              obtain ⟨hx106_0, hf106_0⟩ := Kd.R_celln 0 HO_5.out ((rd t242 x173_4) : Int) p106 q106
                                              replace p106 := eq_true p106
                                              replace q106 := eq_true q106
                                              have HP108 := Kd.R_putg HO_5.out ((rd t242 x173_4) : Int) 8
                                              go_wp2_with (first | ((with_reducible refine gate_store (t := 3) (p := 194) rfl ?_); refine store_event (t := 3) (p := 194) (v := ?vo_w109) (w1 := (wr.setCell ⟨go106, ((rd t242 x173_4) : Int).toNat, none⟩ (.int .i64 8))) ?hg ?ho ?hn ?hr ?_; (case ho => rfl); (case hg => rfl); (case hn => rfl); (case hr => first | (go_simp; done) | (go_simp; rfl)); intro w109 hw; have hg : wr.grownBy w109 (some go106) := (by rw [hw]; exact HP108.2); have hp_ : Kd.R (Kd.int .i64) 3 w109 w.heap.size (fun k_ => some k_ ≠ (.slice (some ad245) t242.length co97 : Value).ownBlock) (.slice (some ⟨go106, 0, none⟩) x5_4.length co107) y247 := (by rw [hw, Ny247.out]; exact HP108.1); clear HP108; have n0_ := Aside0.mk (Kd.R_over' (v := (.slice (some ⟨go106, 0, none⟩) x5_4.length co107)) (by (with_reducible repeat (first | apply Kd.R_alloc | apply Kd.R_drewN | apply Kd.R_drew)); exact HO_4.out) (Kd.R_typed HO_5.out) (by decide) hg); have n1_ := Aside0.mk (hp_); have n2_ := Aside0.mk (Kd.R_after (v := (.slice (some ⟨go106, 0, none⟩) x5_4.length co107)) (v1 := (.slice (some ⟨go106, 0, none⟩) x5_4.length co107)) (ok := (fun _ => True)) (by (with_reducible repeat (first | apply Kd.R_alloc | apply Kd.R_drewN | apply Kd.R_drew)); exact Kd.R_mono HO_171.out (fun _ hk => ⟨trivial, hk⟩)) hg (.inl rfl)); have n3_ := Aside0.mk ((by rw [hw]; exact below_set (HB.out) GB106.out : Below w.heap.size w w109)); clear HO_4; clear HO_5; clear HO_171; clear HB; have HO_4 := n0_; have HO_5 := n1_; have HO_171 := n2_; have HB := n3_; clear n0_ n1_ n2_ n3_; clear hg hw hp_))
                                              go_roundg k4
                                              case measure => have := HK1.out; have := HK2.out; have := HK3.out; have := HK4.out; omega
                                              case rel => exact ⟨(y247), (wrap64 (x173_4 + 1)), (by first | rfl | (simp; done) | (simp [*]; done)), H', ⟨by have := HK1.out; have := HK2.out; have := HK3.out; have := HK4.out; omega⟩, ⟨by (with_reducible repeat (first | apply Kd.R_alloc | apply Kd.R_drewN | apply Kd.R_drew)); exact HO_4.out⟩, ⟨by (with_reducible repeat (first | apply Kd.R_alloc | apply Kd.R_drewN | apply Kd.R_drew)); exact HO_5.out⟩, ⟨by (with_reducible repeat (first | apply Kd.R_alloc | apply Kd.R_drewN | apply Kd.R_drew)); exact Kd.R_mono HO_171.out (fun _ hk => hk.2)⟩, ⟨by repeat (first | (with_reducible first | exact HB.out | apply below_alloc | apply pw_below_drewN | apply below_drew1) | exact HB.out)⟩⟩
                                            · rw [if_neg c105] at H
                                              have c105b0 : ((rd x5_4 (rd t242 x173_4)) == 0) = false := beq_eq_false_iff_ne.mpr c105
                                              have c105b1 : ((rd x5_4 (rd t242 x173_4)) != 0) = true := bne_iff_ne.mpr c105
                                              obtain rfl := Option.some.inj H
                                              have p245 : 0 ≤ (x173_4 : Int) := of_decide_eq_true (by first | (with_reducible assumption) | assumption)
                                              have q245 : x173_4 < (t242.length : Int) := of_decide_eq_true (by first | (with_reducible assumption) | assumption)
                                              obtain ⟨ad245, e245, hx245_0⟩ := Kd.at_int (Kd.R_reads' HO_171.out).2.2 x173_4 p245 q245
                                              cases e245
                                              replace p245 := eq_true p245
                                              replace q245 := eq_true q245
                                              obtain ⟨Ao110, co110, eo110⟩ := Kd.R_slice HO_5.out
                                              subst eo110
                                              have p246 : 0 ≤ ((rd t242 x173_4) : Int) := of_decide_eq_true (by first | (with_reducible assumption) | assumption)
                                              have q246 : (rd t242 x173_4) < (x5_4.length : Int) := of_decide_eq_true (by first | (with_reducible assumption) | assumption)
                                              obtain ⟨ad246, e246, hx246_0⟩ := Kd.at_int (Kd.R_reads' HO_5.out).2.2 (rd t242 x173_4) p246 q246
                                              cases e246
                                              replace p246 := eq_true p246
                                              replace q246 := eq_true q246
                                              go_wp2
                                              go_ret
                                              exact ⟨by first | rfl | (simp [errW_none, errW_some] <;> rfl) | (simp only [← hji6]; first | rfl | (simp [errW_none, errW_some] <;> rfl)) | (simp [*, errW_none, errW_some] <;> rfl), by repeat (first | (with_reducible first | exact HB.out | apply below_alloc | apply pw_below_drewN | apply below_drew1) | exact HB.out)⟩
                                          · rw [if_neg c104] at H
                                            exact absurd H (by simp)
                                        · rw [if_neg c103] at H
                                          exact absurd H (by simp)
                                  · rw [if_neg c100] at H
                                    exact absurd H (by simp)
                                · rw [if_neg c99] at H
                                  exact absurd H (by simp)
                              · rw [if_neg c98] at H
                                have c98b0 : decide (x173_4 < (t242.length : Int)) = false := decide_eq_false c98
                                clear c98
                                have H' := Aside0.mk H
                                clear H
                                go_wp2
                                go_roundg k4
                                case measure => have := HK1.out; have := HK2.out; have := HK3.out; have := HK4.out; omega
                                case rel => exact ⟨(x5_4), (wrap64 (x12_3 + 1)), (by first | rfl | (simp; done) | (simp [*]; done)), H', ⟨by have := HK1.out; have := HK2.out; have := HK3.out; have := HK4.out; omega⟩, ⟨by (with_reducible repeat (first | apply Kd.R_alloc | apply Kd.R_drewN | apply Kd.R_drew)); exact HO_4.out⟩, ⟨by (with_reducible repeat (first | apply Kd.R_alloc | apply Kd.R_drewN | apply Kd.R_drew)); exact Kd.R_mono HO_5.out (fun _ hk => trivial)⟩, ⟨by repeat (first | (with_reducible first | exact HB.out | apply below_alloc | apply pw_below_drewN | apply below_drew1) | exact HB.out)⟩⟩
                        · rw [if_neg c94] at H
                          have c94b0 : decide (x12_3 < 64) = false := decide_eq_false c94
                          clear c94
                          have H' := Aside0.mk H
                          clear H
                          go_wp2
                          go_loopg [15] k3 (fun kq v15 w' => ∃ (x15_4 : Int), v15 = .int .i64 x15_4 ∧ Aside0 (lockfastlaw11_TileWhole.l6 kq t218 t219 x5_3 x15_4 = some r) ∧ Aside0 (kq ≤ k3) ∧ Aside0 (Kd.R (Kd.int .u64) 27 w' w.heap.size (fun _ => True) (.slice Ao12 t219.length co12) t219) ∧ Aside0 (Kd.R (Kd.int .i64) 3 w' w.heap.size (fun _ => True) v223 x5_3) ∧ Aside0 (Below w.heap.size w w'))
                          case atStart => exact ⟨(0), (by first | rfl | (simp; done) | (simp [*]; done)), H', ⟨Nat.le_refl _⟩, ⟨by (with_reducible repeat (first | apply Kd.R_alloc | apply Kd.R_drewN | apply Kd.R_drew)); exact HO_4.out⟩, ⟨by (with_reducible repeat (first | apply Kd.R_alloc | apply Kd.R_drewN | apply Kd.R_drew)); exact HO_5.out⟩, ⟨by repeat (first | (with_reducible first | exact HB.out | apply below_alloc | apply pw_below_drewN | apply below_drew1) | exact HB.out)⟩⟩
                          case round =>
                            clear H'
                            try clear c1
                            try clear p1
                            try clear q1
                            try clear hx1
                            try clear hf1
                            try clear c2
                            try clear p2
                            try clear q2
                            try clear hx2
                            try clear c3
                            try clear c4
                            try clear p4
                            try clear q4
                            try clear hx4
                            try clear hf4
                            try clear c5
                            try clear c6
                            try clear p6
                            try clear q6
                            try clear hx6
                            try clear hf6
                            try clear c7
                            try clear c8
                            try clear p8
                            try clear q8
                            try clear hx8
                            try clear hf8
                            try clear c9
                            try clear c10
                            try clear p10
                            try clear q10
                            try clear hx10
                            try clear hf10
                            try clear c17
                            try clear c17b0
                            try clear c18
                            try clear c19
                            try clear c21
                            try clear p23
                            try clear q23
                            try clear hx23
                            try clear p24
                            try clear q24
                            try clear hx24
                            try clear c31
                            try clear c31b0
                            try clear c32
                            try clear c33
                            try clear c35
                            try clear c41
                            try clear c41b0
                            try clear c45
                            try clear c45b0
                            try clear p47
                            try clear q47
                            try clear hx47
                            try clear hf47
                            try clear c54
                            try clear c54b0
                            try clear c55
                            try clear c55b0
                            try clear c56
                            try clear c58
                            try clear c58b0
                            try clear c59
                            try clear c59b0
                            try clear c60
                            try clear c60b0
                            try clear c60b1
                            try clear p61
                            try clear q61
                            try clear hx61
                            try clear hf61
                            try clear p64
                            try clear c72
                            try clear c72b0
                            try clear c73
                            try clear c73b0
                            try clear c74
                            try clear c74b0
                            try clear c77
                            try clear c77b0
                            try clear c78
                            try clear c78b0
                            try clear c80
                            try clear c80b0
                            try clear c83
                            try clear c83b0
                            try clear c84
                            try clear c84b0
                            try clear c85
                            try clear c85b0
                            try clear c85b1
                            try clear p86
                            try clear q86
                            try clear hx86
                            try clear hf86
                            try clear c94
                            try clear c94b0
                            try clear c98
                            try clear c98b0
                            try clear c99
                            try clear c99b0
                            try clear c100
                            try clear c100b0
                            try clear c101
                            try clear c101b0
                            try clear c102
                            try clear c102b0
                            try clear c103
                            try clear c103b0
                            try clear c104
                            try clear c104b0
                            try clear c105
                            try clear c105b0
                            try clear c105b1
                            try clear p106
                            try clear q106
                            try clear hx106
                            try clear hf106
                            try clear hcz48_0
                            try clear hcz48_1
                            try clear hcz48_2
                            try clear hcz53_0
                            try clear hcz53_1
                            try clear hcz53_2
                            try clear hcz56_0
                            try clear hcz56_1
                            try clear hcz56_2
                            try clear hcz62_0
                            try clear hcz62_1
                            try clear hcz62_2
                            try clear hcz66_0
                            try clear hcz66_1
                            try clear hcz66_2
                            try clear hcz68_0
                            try clear hcz68_1
                            try clear hcz68_2
                            try clear hcz76_0
                            try clear hcz76_1
                            try clear hcz79_0
                            try clear hcz79_1
                            try clear hcz81_0
                            try clear hcz81_1
                            try clear hcz87_0
                            try clear hcz87_1
                            try clear hcz91_0
                            try clear hcz91_1
                            try clear hcz93_0
                            try clear hcz93_1
                            try clear hfz42_1
                            try clear hfz42_2
                            try clear hfz48_0
                            try clear hfz48_1
                            try clear hfz48_2
                            try clear hfz53_0
                            try clear hfz53_1
                            try clear hfz53_2
                            try clear hfz56_0
                            try clear hfz56_1
                            try clear hfz56_2
                            try clear hfz62_0
                            try clear hfz62_1
                            try clear hfz62_2
                            try clear hfz66_0
                            try clear hfz66_1
                            try clear hfz66_2
                            try clear hfz68_0
                            try clear hfz68_1
                            try clear hfz68_2
                            try clear hfz76_0
                            try clear hfz76_1
                            try clear hfz79_0
                            try clear hfz79_1
                            try clear hfz81_0
                            try clear hfz81_1
                            try clear hfz87_0
                            try clear hfz87_1
                            try clear hfz91_0
                            try clear hfz91_1
                            try clear hfz93_0
                            try clear hfz93_1
                            try clear hx106_0
                            try clear hx230_0
                            try clear hx231_0
                            try clear hx233_0
                            try clear hx238_0
                            try clear hx238_1
                            try clear hx240_0
                            try clear hx245_0
                            try clear hx246_0
                            try clear hx47_0
                            try clear hx61_0
                            try clear hx86_0
                            try clear p106
                            try clear p2
                            try clear p23
                            try clear p230
                            try clear p231
                            try clear p233
                            try clear p238
                            try clear p24
                            try clear p240
                            try clear p245
                            try clear p246
                            try clear p4
                            try clear p47
                            try clear p6
                            try clear p61
                            try clear p64
                            try clear p8
                            try clear p86
                            try clear q106
                            try clear q2
                            try clear q23
                            try clear q230
                            try clear q231
                            try clear q233
                            try clear q238
                            try clear q24
                            try clear q240
                            try clear q245
                            try clear q246
                            try clear q4
                            try clear q47
                            try clear q6
                            try clear q61
                            try clear q8
                            try clear q86
                            obtain ⟨x15_4, rfl, HA, HK4, HO_4, HO_5, HB⟩ := hrel
                            cases gk with
                            | zero => exact absurd HA.out (by simp [lockfastlaw11_TileWhole.l6])
                            | succ k4 =>
                              have H := HA.out
                              clear HA
                              simp only [lockfastlaw11_TileWhole.l6] at H
                              by_cases c111 : x15_4 < (t219.length : Int)
                              · rw [if_pos c111] at H
                                have c111b0 : decide (x15_4 < (t219.length : Int)) = true := decide_eq_true c111
                                clear c111
                                by_cases c112 : 0 ≤ x15_4
                                · rw [if_pos c112] at H
                                  have c112b0 : decide (0 ≤ x15_4) = true := decide_eq_true c112
                                  clear c112
                                  by_cases c113 : x15_4 < (x5_3.length : Int)
                                  · rw [if_pos c113] at H
                                    have c113b0 : decide (x15_4 < (x5_3.length : Int)) = true := decide_eq_true c113
                                    clear c113
                                    by_cases c114 : (rd x5_3 x15_4) = 0
                                    · rw [if_pos c114] at H
                                      have c114b0 : ((rd x5_3 x15_4) == 0) = true := beq_iff_eq.mpr c114
                                      have c114b1 : ((rd x5_3 x15_4) != 0) = false := bne_eq_false_iff_eq.mpr c114
                                      clear c114
                                      obtain rfl := Option.some.inj H
                                      obtain ⟨Ao115, co115, eo115⟩ := Kd.R_slice HO_5.out
                                      subst eo115
                                      have p248 : 0 ≤ (x15_4 : Int) := of_decide_eq_true (by first | (with_reducible assumption) | assumption)
                                      have q248 : x15_4 < (x5_3.length : Int) := of_decide_eq_true (by first | (with_reducible assumption) | assumption)
                                      obtain ⟨ad248, e248, hx248_0⟩ := Kd.at_int (Kd.R_reads' HO_5.out).2.2 x15_4 p248 q248
                                      cases e248
                                      replace p248 := eq_true p248
                                      replace q248 := eq_true q248
                                      go_wp2
                                      go_ret
                                      exact ⟨by first | rfl | (simp [errW_none, errW_some] <;> rfl) | (simp only [← hji6]; first | rfl | (simp [errW_none, errW_some] <;> rfl)) | (simp [*, errW_none, errW_some] <;> rfl), by repeat (first | (with_reducible first | exact HB.out | apply below_alloc | apply pw_below_drewN | apply below_drew1) | exact HB.out)⟩
                                    · rw [if_neg c114] at H
                                      have c114b0 : ((rd x5_3 x15_4) == 0) = false := beq_eq_false_iff_ne.mpr c114
                                      have c114b1 : ((rd x5_3 x15_4) != 0) = true := bne_iff_ne.mpr c114
                                      have H' := Aside0.mk H
                                      clear H
                                      obtain ⟨Ao116, co116, eo116⟩ := Kd.R_slice HO_5.out
                                      subst eo116
                                      have p248 : 0 ≤ (x15_4 : Int) := of_decide_eq_true (by first | (with_reducible assumption) | assumption)
                                      have q248 : x15_4 < (x5_3.length : Int) := of_decide_eq_true (by first | (with_reducible assumption) | assumption)
                                      obtain ⟨ad248, e248, hx248_0⟩ := Kd.at_int (Kd.R_reads' HO_5.out).2.2 x15_4 p248 q248
                                      cases e248
                                      replace p248 := eq_true p248
                                      replace q248 := eq_true q248
                                      go_wp2
                                      go_roundg k4
                                      case measure => have := HK1.out; have := HK2.out; have := HK3.out; have := HK4.out; omega
                                      case rel => exact ⟨(wrap64 (x15_4 + 1)), (by first | rfl | (simp; done) | (simp [*]; done)), H', ⟨by have := HK1.out; have := HK2.out; have := HK3.out; have := HK4.out; omega⟩, ⟨by (with_reducible repeat (first | apply Kd.R_alloc | apply Kd.R_drewN | apply Kd.R_drew)); exact HO_4.out⟩, ⟨by (with_reducible repeat (first | apply Kd.R_alloc | apply Kd.R_drewN | apply Kd.R_drew)); exact HO_5.out⟩, ⟨by repeat (first | (with_reducible first | exact HB.out | apply below_alloc | apply pw_below_drewN | apply below_drew1) | exact HB.out)⟩⟩
                                  · rw [if_neg c113] at H
                                    exact absurd H (by simp)
                                · rw [if_neg c112] at H
                                  exact absurd H (by simp)
                              · rw [if_neg c111] at H
                                have c111b0 : decide (x15_4 < (t219.length : Int)) = false := decide_eq_false c111
                                clear c111
                                obtain rfl := Option.some.inj H
                                go_wp2
                                go_ret
                                exact ⟨by first | rfl | (simp [errW_none, errW_some] <;> rfl) | (simp only [← hji6]; first | rfl | (simp [errW_none, errW_some] <;> rfl)) | (simp [*, errW_none, errW_some] <;> rfl), by repeat (first | (with_reducible first | exact HB.out | apply below_alloc | apply pw_below_drewN | apply below_drew1) | exact HB.out)⟩
      · rw [if_neg c8] at H
        exact absurd H (by simp)
    · rw [if_neg c7] at H
      exact absurd H (by simp)


end Go.Proofs.YtflbmccjfnkflaaDoor.Q
