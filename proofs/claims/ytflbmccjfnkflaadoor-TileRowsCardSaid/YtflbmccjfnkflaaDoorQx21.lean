-- Written by lfprint.py of this session's own, by way of the kit's print.py; with hand-made contracts.
import Derived.Test.YtflbmccjfnkflaaDoorQx0
import Derived.Test.YtflbmccjfnkflaaDoorQx5
import Derived.Test.YtflbmccjfnkflaaDoorQx10
import Derived.Test.YtflbmccjfnkflaaDoorQx16
import Derived.Test.YtflbmccjfnkflaaDoorQx20
namespace Go.Proofs.YtflbmccjfnkflaaDoor.Q
open Go.RowKit Go.Proofs.YtflbmccjfnkflaaDoorW.PrintWords Go.Proofs.YtflbmccjfnkflaaDoorW.PrintLast Go.Proofs.YtflbmccjfnkflaaDoorW.PrintMore
attribute [local go_sem] max2_int min2_int max_two min_two max_three min_three max_four min_four   -- for this text's walks alone
set_option linter.unusedVariables false
set_option linter.unusedSimpArgs false

/-! ### lockfastlaw11_TileRows: function 4 -/
mutual
def lockfastlaw11_TileRows.j0 : Nat → Bool → List Int → List (S29) → Bool → Option (Bool)
  | 0, _, _, _, _ => none
  | k + 1, x3, x4, x5, x31 => if x31 = true then (some false) else ((tile_Rows.f k x4).bind fun t261 => (lockfastlaw11_TileRows.l0 k x3 x4 x5 (-2) t261 (t261.length : Int) 0))
def lockfastlaw11_TileRows.l0 : Nat → Bool → List Int → List (S29) → Int → List (S36) → Int → Int → Option (Bool)
  | 0, _, _, _, _, _, _, _ => none
  | k + 1, x3, x4, x5, x7, x33, x34, x35 => if x35 < x34 then (if 0 ≤ x35 then (if x35 < (x33.length : Int) then (if ((rd_T36 x33 x35).f1) < 1 then (lockfastlaw11_TileRows.j2 k x3 x4 x5 x33 x34 x35 true ((rd_T36 x33 x35).f0) ((rd_T36 x33 x35).f1)) else (if ((rd_T36 x33 x35).f0) ≤ (wrap64 (x7 + 1)) then (if x7 ≥ (-1) then (lockfastlaw11_TileRows.j2 k x3 x4 x5 x33 x34 x35 true ((rd_T36 x33 x35).f0) ((rd_T36 x33 x35).f1)) else (if ((rd_T36 x33 x35).f0) < 0 then (lockfastlaw11_TileRows.j2 k x3 x4 x5 x33 x34 x35 true ((rd_T36 x33 x35).f0) ((rd_T36 x33 x35).f1)) else (lockfastlaw11_TileRows.j2 k x3 x4 x5 x33 x34 x35 (decide ((wrap64 (((rd_T36 x33 x35).f0) + ((rd_T36 x33 x35).f1))) > (x4.length : Int))) ((rd_T36 x33 x35).f0) ((rd_T36 x33 x35).f1)))) else (if ((rd_T36 x33 x35).f0) < 0 then (lockfastlaw11_TileRows.j2 k x3 x4 x5 x33 x34 x35 true ((rd_T36 x33 x35).f0) ((rd_T36 x33 x35).f1)) else (lockfastlaw11_TileRows.j2 k x3 x4 x5 x33 x34 x35 (decide ((wrap64 (((rd_T36 x33 x35).f0) + ((rd_T36 x33 x35).f1))) > (x4.length : Int))) ((rd_T36 x33 x35).f0) ((rd_T36 x33 x35).f1))))) else (none)) else (none)) else (some x3)
def lockfastlaw11_TileRows.j2 : Nat → Bool → List Int → List (S29) → List (S36) → Int → Int → Bool → Int → Int → Option (Bool)
  | 0, _, _, _, _, _, _, _, _, _ => none
  | k + 1, x3, x4, x5, x33, x34, x35, x67, x266000, x266001 => if x67 = true then (some false) else (if x266000 > 0 then (if 0 ≤ (wrap64 (x266000 - 1)) then (if (wrap64 (x266000 - 1)) < (x5.length : Int) then (if ((rd_T29 x5 (wrap64 (x266000 - 1))).f0) = 0 then (lockfastlaw11_TileRows.j3 k x3 x4 x5 x33 x34 x35 true x266000 x266001) else ((chunk_Empty.f ((rd_T29 x5 (wrap64 (x266000 - 1))).f0) ((rd_T29 x5 (wrap64 (x266000 - 1))).f1) ((rd_T29 x5 (wrap64 (x266000 - 1))).f2) ((rd_T29 x5 (wrap64 (x266000 - 1))).f3) ((rd_T29 x5 (wrap64 (x266000 - 1))).f4)).bind fun t268 => (if t268 = true then (lockfastlaw11_TileRows.j3 k x3 x4 x5 x33 x34 x35 true x266000 x266001) else (if (wrap64 (x266000 + x266001)) < (x4.length : Int) then (if 0 ≤ (wrap64 (x266000 + x266001)) then (if (wrap64 (x266000 + x266001)) < (x5.length : Int) then (if ((rd_T29 x5 (wrap64 (x266000 + x266001))).f0) = 0 then (lockfastlaw11_TileRows.j3 k x3 x4 x5 x33 x34 x35 true x266000 x266001) else ((chunk_Empty.f ((rd_T29 x5 (wrap64 (x266000 + x266001))).f0) ((rd_T29 x5 (wrap64 (x266000 + x266001))).f1) ((rd_T29 x5 (wrap64 (x266000 + x266001))).f2) ((rd_T29 x5 (wrap64 (x266000 + x266001))).f3) ((rd_T29 x5 (wrap64 (x266000 + x266001))).f4)).bind fun t271 => (lockfastlaw11_TileRows.j3 k x3 x4 x5 x33 x34 x35 t271 x266000 x266001))) else (none)) else (none)) else (lockfastlaw11_TileRows.j3 k x3 x4 x5 x33 x34 x35 false x266000 x266001))))) else (none)) else (none)) else (if (wrap64 (x266000 + x266001)) < (x4.length : Int) then (if 0 ≤ (wrap64 (x266000 + x266001)) then (if (wrap64 (x266000 + x266001)) < (x5.length : Int) then (if ((rd_T29 x5 (wrap64 (x266000 + x266001))).f0) = 0 then (lockfastlaw11_TileRows.j3 k x3 x4 x5 x33 x34 x35 true x266000 x266001) else ((chunk_Empty.f ((rd_T29 x5 (wrap64 (x266000 + x266001))).f0) ((rd_T29 x5 (wrap64 (x266000 + x266001))).f1) ((rd_T29 x5 (wrap64 (x266000 + x266001))).f2) ((rd_T29 x5 (wrap64 (x266000 + x266001))).f3) ((rd_T29 x5 (wrap64 (x266000 + x266001))).f4)).bind fun t274 => (lockfastlaw11_TileRows.j3 k x3 x4 x5 x33 x34 x35 t274 x266000 x266001))) else (none)) else (none)) else (lockfastlaw11_TileRows.j3 k x3 x4 x5 x33 x34 x35 false x266000 x266001)))
def lockfastlaw11_TileRows.j3 : Nat → Bool → List Int → List (S29) → List (S36) → Int → Int → Bool → Int → Int → Option (Bool)
  | 0, _, _, _, _, _, _, _, _, _ => none
  | k + 1, x3, x4, x5, x33, x34, x35, x122, x266000, x266001 => if x122 = true then (some false) else (lockfastlaw11_TileRows.l1 k x3 x4 x5 0 x33 x34 x35 x266000 x266001)
def lockfastlaw11_TileRows.l1 : Nat → Bool → List Int → List (S29) → Int → List (S36) → Int → Int → Int → Int → Option (Bool)
  | 0, _, _, _, _, _, _, _, _, _ => none
  | k + 1, x3, x4, x5, x10, x33, x34, x35, x266000, x266001 => if x10 < x266001 then (if 0 ≤ (wrap64 (x266000 + x10)) then (if (wrap64 (x266000 + x10)) < (x5.length : Int) then (if ((rd_T29 x5 (wrap64 (x266000 + x10))).f0) = 0 then (lockfastlaw11_TileRows.l1 k x3 x4 x5 (wrap64 (x10 + 1)) x33 x34 x35 x266000 x266001) else ((chunk_Empty.f ((rd_T29 x5 (wrap64 (x266000 + x10))).f0) ((rd_T29 x5 (wrap64 (x266000 + x10))).f1) ((rd_T29 x5 (wrap64 (x266000 + x10))).f2) ((rd_T29 x5 (wrap64 (x266000 + x10))).f3) ((rd_T29 x5 (wrap64 (x266000 + x10))).f4)).bind fun t277 => (if t277 = true then (lockfastlaw11_TileRows.l1 k x3 x4 x5 (wrap64 (x10 + 1)) x33 x34 x35 x266000 x266001) else (some false)))) else (none)) else (none)) else (lockfastlaw11_TileRows.l0 k x3 x4 x5 (wrap64 ((wrap64 (x266000 + x266001)) - 1)) x33 x34 (wrap64 (x35 + 1)))
end
def lockfastlaw11_TileRows.f (k : Nat) (l0 : List Int) : Option (Bool) := (lockfastlaw11_awake.f k).bind fun t253 => (if (l0.length : Int) > 60 then (some t253) else ((lockfastref11_Made.f k l0 40).bind fun t254 => ((tile_Chunks.f k t254).bind fun bt257 => (if bt257.2 = true then (lockfastlaw11_TileRows.j0 k t253 t254 bt257.1 ((bt257.1.length : Int) != (t254.length : Int))) else (lockfastlaw11_TileRows.j0 k t253 t254 bt257.1 true)))))
theorem lockfastlaw11_TileRows.mono_l : ∀ k, (∀ y0 y1 y2 y3, LeO (lockfastlaw11_TileRows.j0 k y0 y1 y2 y3) (lockfastlaw11_TileRows.j0 (k + 1) y0 y1 y2 y3)) ∧ (∀ y0 y1 y2 y3 y4 y5 y6, LeO (lockfastlaw11_TileRows.l0 k y0 y1 y2 y3 y4 y5 y6) (lockfastlaw11_TileRows.l0 (k + 1) y0 y1 y2 y3 y4 y5 y6)) ∧ (∀ y0 y1 y2 y3 y4 y5 y6 y7 y8, LeO (lockfastlaw11_TileRows.j2 k y0 y1 y2 y3 y4 y5 y6 y7 y8) (lockfastlaw11_TileRows.j2 (k + 1) y0 y1 y2 y3 y4 y5 y6 y7 y8)) ∧ (∀ y0 y1 y2 y3 y4 y5 y6 y7 y8, LeO (lockfastlaw11_TileRows.j3 k y0 y1 y2 y3 y4 y5 y6 y7 y8) (lockfastlaw11_TileRows.j3 (k + 1) y0 y1 y2 y3 y4 y5 y6 y7 y8)) ∧ (∀ y0 y1 y2 y3 y4 y5 y6 y7 y8, LeO (lockfastlaw11_TileRows.l1 k y0 y1 y2 y3 y4 y5 y6 y7 y8) (lockfastlaw11_TileRows.l1 (k + 1) y0 y1 y2 y3 y4 y5 y6 y7 y8))
  | 0 => ⟨fun _ _ _ _ r h => by simp [lockfastlaw11_TileRows.j0] at h, fun _ _ _ _ _ _ _ r h => by simp [lockfastlaw11_TileRows.l0] at h, fun _ _ _ _ _ _ _ _ _ r h => by simp [lockfastlaw11_TileRows.j2] at h, fun _ _ _ _ _ _ _ _ _ r h => by simp [lockfastlaw11_TileRows.j3] at h, fun _ _ _ _ _ _ _ _ _ r h => by simp [lockfastlaw11_TileRows.l1] at h⟩
  | k + 1 => by
    obtain ⟨ih0, ih1, ih2, ih3, ih4⟩ := lockfastlaw11_TileRows.mono_l k
    refine ⟨?_, ?_, ?_, ?_, ?_⟩
    · intro y0 y1 y2 y3
      unfold lockfastlaw11_TileRows.j0
      repeat' first
      | (with_reducible exact ih0 _ _ _ _)
      | (with_reducible exact ih1 _ _ _ _ _ _ _)
      | (with_reducible exact ih2 _ _ _ _ _ _ _ _ _)
      | (with_reducible exact ih3 _ _ _ _ _ _ _ _ _)
      | (with_reducible exact ih4 _ _ _ _ _ _ _ _ _)
      | (with_reducible exact lockfastlaw11_awake.mono _)
      | (with_reducible exact lockfastref11_Made.mono _ _ _)
      | (with_reducible exact tile_Chunks.mono _ _)
      | (with_reducible exact tile_Rows.mono _ _)
      | (with_reducible exact LeO.refl _)
      | (with_reducible exact LeO.none _)
      | (with_reducible refine LeO.ite ?_ ?_)
      | (with_reducible refine LeO.bind ?_ (fun _ => ?_))
      | exact ih0 _ _ _ _
      | exact ih1 _ _ _ _ _ _ _
      | exact ih2 _ _ _ _ _ _ _ _ _
      | exact ih3 _ _ _ _ _ _ _ _ _
      | exact ih4 _ _ _ _ _ _ _ _ _
      | exact lockfastlaw11_awake.mono _
      | exact lockfastref11_Made.mono _ _ _
      | exact tile_Chunks.mono _ _
      | exact tile_Rows.mono _ _
      | exact LeO.none _
      | refine LeO.ite ?_ ?_
      | refine LeO.bind ?_ (fun _ => ?_)
    · intro y0 y1 y2 y3 y4 y5 y6
      unfold lockfastlaw11_TileRows.l0
      repeat' first
      | (with_reducible exact ih0 _ _ _ _)
      | (with_reducible exact ih1 _ _ _ _ _ _ _)
      | (with_reducible exact ih2 _ _ _ _ _ _ _ _ _)
      | (with_reducible exact ih3 _ _ _ _ _ _ _ _ _)
      | (with_reducible exact ih4 _ _ _ _ _ _ _ _ _)
      | (with_reducible exact lockfastlaw11_awake.mono _)
      | (with_reducible exact lockfastref11_Made.mono _ _ _)
      | (with_reducible exact tile_Chunks.mono _ _)
      | (with_reducible exact tile_Rows.mono _ _)
      | (with_reducible exact LeO.refl _)
      | (with_reducible exact LeO.none _)
      | (with_reducible refine LeO.ite ?_ ?_)
      | (with_reducible refine LeO.bind ?_ (fun _ => ?_))
      | exact ih0 _ _ _ _
      | exact ih1 _ _ _ _ _ _ _
      | exact ih2 _ _ _ _ _ _ _ _ _
      | exact ih3 _ _ _ _ _ _ _ _ _
      | exact ih4 _ _ _ _ _ _ _ _ _
      | exact lockfastlaw11_awake.mono _
      | exact lockfastref11_Made.mono _ _ _
      | exact tile_Chunks.mono _ _
      | exact tile_Rows.mono _ _
      | exact LeO.none _
      | refine LeO.ite ?_ ?_
      | refine LeO.bind ?_ (fun _ => ?_)
    · intro y0 y1 y2 y3 y4 y5 y6 y7 y8
      unfold lockfastlaw11_TileRows.j2
      repeat' first
      | (with_reducible exact ih0 _ _ _ _)
      | (with_reducible exact ih1 _ _ _ _ _ _ _)
      | (with_reducible exact ih2 _ _ _ _ _ _ _ _ _)
      | (with_reducible exact ih3 _ _ _ _ _ _ _ _ _)
      | (with_reducible exact ih4 _ _ _ _ _ _ _ _ _)
      | (with_reducible exact lockfastlaw11_awake.mono _)
      | (with_reducible exact lockfastref11_Made.mono _ _ _)
      | (with_reducible exact tile_Chunks.mono _ _)
      | (with_reducible exact tile_Rows.mono _ _)
      | (with_reducible exact LeO.refl _)
      | (with_reducible exact LeO.none _)
      | (with_reducible refine LeO.ite ?_ ?_)
      | (with_reducible refine LeO.bind ?_ (fun _ => ?_))
      | exact ih0 _ _ _ _
      | exact ih1 _ _ _ _ _ _ _
      | exact ih2 _ _ _ _ _ _ _ _ _
      | exact ih3 _ _ _ _ _ _ _ _ _
      | exact ih4 _ _ _ _ _ _ _ _ _
      | exact lockfastlaw11_awake.mono _
      | exact lockfastref11_Made.mono _ _ _
      | exact tile_Chunks.mono _ _
      | exact tile_Rows.mono _ _
      | exact LeO.none _
      | refine LeO.ite ?_ ?_
      | refine LeO.bind ?_ (fun _ => ?_)
    · intro y0 y1 y2 y3 y4 y5 y6 y7 y8
      unfold lockfastlaw11_TileRows.j3
      repeat' first
      | (with_reducible exact ih0 _ _ _ _)
      | (with_reducible exact ih1 _ _ _ _ _ _ _)
      | (with_reducible exact ih2 _ _ _ _ _ _ _ _ _)
      | (with_reducible exact ih3 _ _ _ _ _ _ _ _ _)
      | (with_reducible exact ih4 _ _ _ _ _ _ _ _ _)
      | (with_reducible exact lockfastlaw11_awake.mono _)
      | (with_reducible exact lockfastref11_Made.mono _ _ _)
      | (with_reducible exact tile_Chunks.mono _ _)
      | (with_reducible exact tile_Rows.mono _ _)
      | (with_reducible exact LeO.refl _)
      | (with_reducible exact LeO.none _)
      | (with_reducible refine LeO.ite ?_ ?_)
      | (with_reducible refine LeO.bind ?_ (fun _ => ?_))
      | exact ih0 _ _ _ _
      | exact ih1 _ _ _ _ _ _ _
      | exact ih2 _ _ _ _ _ _ _ _ _
      | exact ih3 _ _ _ _ _ _ _ _ _
      | exact ih4 _ _ _ _ _ _ _ _ _
      | exact lockfastlaw11_awake.mono _
      | exact lockfastref11_Made.mono _ _ _
      | exact tile_Chunks.mono _ _
      | exact tile_Rows.mono _ _
      | exact LeO.none _
      | refine LeO.ite ?_ ?_
      | refine LeO.bind ?_ (fun _ => ?_)
    · intro y0 y1 y2 y3 y4 y5 y6 y7 y8
      unfold lockfastlaw11_TileRows.l1
      repeat' first
      | (with_reducible exact ih0 _ _ _ _)
      | (with_reducible exact ih1 _ _ _ _ _ _ _)
      | (with_reducible exact ih2 _ _ _ _ _ _ _ _ _)
      | (with_reducible exact ih3 _ _ _ _ _ _ _ _ _)
      | (with_reducible exact ih4 _ _ _ _ _ _ _ _ _)
      | (with_reducible exact lockfastlaw11_awake.mono _)
      | (with_reducible exact lockfastref11_Made.mono _ _ _)
      | (with_reducible exact tile_Chunks.mono _ _)
      | (with_reducible exact tile_Rows.mono _ _)
      | (with_reducible exact LeO.refl _)
      | (with_reducible exact LeO.none _)
      | (with_reducible refine LeO.ite ?_ ?_)
      | (with_reducible refine LeO.bind ?_ (fun _ => ?_))
      | exact ih0 _ _ _ _
      | exact ih1 _ _ _ _ _ _ _
      | exact ih2 _ _ _ _ _ _ _ _ _
      | exact ih3 _ _ _ _ _ _ _ _ _
      | exact ih4 _ _ _ _ _ _ _ _ _
      | exact lockfastlaw11_awake.mono _
      | exact lockfastref11_Made.mono _ _ _
      | exact tile_Chunks.mono _ _
      | exact tile_Rows.mono _ _
      | exact LeO.none _
      | refine LeO.ite ?_ ?_
      | refine LeO.bind ?_ (fun _ => ?_)
theorem lockfastlaw11_TileRows.mono : ∀ a0 k, LeO (lockfastlaw11_TileRows.f k a0) (lockfastlaw11_TileRows.f (k + 1) a0) := by
  intro a0 k
  obtain ⟨ih0, ih1, ih2, ih3, ih4⟩ := lockfastlaw11_TileRows.mono_l k
  unfold lockfastlaw11_TileRows.f
  repeat' first
      | (with_reducible exact ih0 _ _ _ _)
      | (with_reducible exact ih1 _ _ _ _ _ _ _)
      | (with_reducible exact ih2 _ _ _ _ _ _ _ _ _)
      | (with_reducible exact ih3 _ _ _ _ _ _ _ _ _)
      | (with_reducible exact ih4 _ _ _ _ _ _ _ _ _)
      | (with_reducible exact lockfastlaw11_awake.mono _)
      | (with_reducible exact lockfastref11_Made.mono _ _ _)
      | (with_reducible exact tile_Chunks.mono _ _)
      | (with_reducible exact tile_Rows.mono _ _)
      | (with_reducible exact LeO.refl _)
      | (with_reducible exact LeO.none _)
      | (with_reducible refine LeO.ite ?_ ?_)
      | (with_reducible refine LeO.bind ?_ (fun _ => ?_))
      | exact ih0 _ _ _ _
      | exact ih1 _ _ _ _ _ _ _
      | exact ih2 _ _ _ _ _ _ _ _ _
      | exact ih3 _ _ _ _ _ _ _ _ _
      | exact ih4 _ _ _ _ _ _ _ _ _
      | exact lockfastlaw11_awake.mono _
      | exact lockfastref11_Made.mono _ _ _
      | exact tile_Chunks.mono _ _
      | exact tile_Rows.mono _ _
      | exact LeO.none _
      | refine LeO.ite ?_ ?_
      | refine LeO.bind ?_ (fun _ => ?_)
set_option maxHeartbeats 8000000 in
set_option maxRecDepth 100000 in
theorem lockfastlaw11_TileRows.calls (k : Nat) (A0 : Option Addr) (c0 : Nat) (l0 : List Int) (r : Bool) (w : World) (hr0 : Kd.C (Kd.int .u16) w A0 l0.length l0) (hc0 : l0.length ≤ c0) (h : lockfastlaw11_TileRows.f k l0 = some r) :
    CallsG 4 #[.slice A0 l0.length c0] w fun e w' => e = .returned (.bool r) ∧ Below w.heap.size w w' := by
  intro HG0_
  have HG := Aside0.mk HG0_
  clear HG0_
  have hu36 := Tryd.underlying36
  have hu29 := Tryd.underlying29
  have HR0 := Aside0.mk hr0
  have HC0 := Aside0.mk hc0
  clear hr0 hc0
  have HB := Aside0.mk (Below.refl w.heap.size w)
  have H : ((lockfastlaw11_awake.f k).bind fun t253 => (if (l0.length : Int) > 60 then (some t253) else ((lockfastref11_Made.f k l0 40).bind fun t254 => ((tile_Chunks.f k t254).bind fun bt257 => (if bt257.2 = true then (lockfastlaw11_TileRows.j0 k t253 t254 bt257.1 ((bt257.1.length : Int) != (t254.length : Int))) else (lockfastlaw11_TileRows.j0 k t253 t254 bt257.1 true)))))) = some r := h
  clear h
  replace H := Option.bind_eq_some_iff.mp H
  obtain ⟨t253, A20, H⟩ := H
  replace H : (if (l0.length : Int) > 60 then (some t253) else ((lockfastref11_Made.f k l0 40).bind fun t254 => ((tile_Chunks.f k t254).bind fun bt257 => (if bt257.2 = true then (lockfastlaw11_TileRows.j0 k t253 t254 bt257.1 ((bt257.1.length : Int) != (t254.length : Int))) else (lockfastlaw11_TileRows.j0 k t253 t254 bt257.1 true))))) = some r := H
  have A2 := Aside0.mk A20
  clear A20
  by_cases c3 : (l0.length : Int) > 60
  · rw [if_pos c3] at H
    have c3b0 : decide (60 < (l0.length : Int)) = true := decide_eq_true c3
    have c3b1 : decide (60 < l0.length) = true := decide_eq_true (by omega)
    clear c3
    obtain rfl := Option.some.inj H
    go_enter Tryd.func4, Tryd.ntmps4
    go_wp2_with (first | ((with_reducible refine gate_callee (f := 15) rfl ?_); refine goesL_ (some 11) rfl rfl Tryd.func15 (by kernel_rfl) rfl #[] rfl (by (try simp only [List.map_toArray, List.map_cons, List.map_nil]); first | done | rfl | (simp only [List.length_drop, List.length_take]; rfl)) ?_; (with_reducible refine (lockfastlaw11_awake.calls k  t253 _ A2.out).mono ?_); rintro e w4 ⟨rfl, hb⟩; refine ⟨_, rfl, ?_⟩; have n0_ := Aside0.mk (below_step (by repeat (first | (with_reducible first | exact HB.out | apply below_alloc | apply pw_below_drewN | apply below_drew1) | exact HB.out)) hb); clear HB; have HB := n0_; clear n0_; (try clear hb); (try clear hb2); (try clear hk); (try clear hi)))
    go_ret
    exact ⟨by first | rfl | (simp [errW_none, errW_some] <;> rfl) | (simp [*, errW_none, errW_some] <;> rfl), by repeat (first | (with_reducible first | exact HB.out | apply below_alloc | apply pw_below_drewN | apply below_drew1) | exact HB.out)⟩
  · rw [if_neg c3] at H
    have c3b0 : decide (60 < (l0.length : Int)) = false := decide_eq_false c3
    have c3b1 : decide (60 < l0.length) = false := decide_eq_false (by omega)
    clear c3
    replace H := Option.bind_eq_some_iff.mp H
    obtain ⟨t254, A50, H⟩ := H
    replace H : ((tile_Chunks.f k t254).bind fun bt257 => (if bt257.2 = true then (lockfastlaw11_TileRows.j0 k t253 t254 bt257.1 ((bt257.1.length : Int) != (t254.length : Int))) else (lockfastlaw11_TileRows.j0 k t253 t254 bt257.1 true))) = some r := H
    have A5 := Aside0.mk A50
    clear A50
    replace H := Option.bind_eq_some_iff.mp H
    obtain ⟨⟨t257, t258⟩, A60, H⟩ := H
    replace H : (if t258 = true then (lockfastlaw11_TileRows.j0 k t253 t254 t257 ((t257.length : Int) != (t254.length : Int))) else (lockfastlaw11_TileRows.j0 k t253 t254 t257 true)) = some r := H
    have A6 := Aside0.mk A60
    clear A60
    have HC7 := Aside0.mk H
    clear H
    go_enter Tryd.func4, Tryd.ntmps4
    go_upto_region 6 with (first | ((with_reducible refine gate_callee (f := 15) rfl ?_); refine goesL_ (some 11) rfl rfl Tryd.func15 (by kernel_rfl) rfl #[] rfl (by (try simp only [List.map_toArray, List.map_cons, List.map_nil]); first | done | rfl | (simp only [List.length_drop, List.length_take]; rfl)) ?_; (with_reducible refine (lockfastlaw11_awake.calls k  t253 _ A2.out).mono ?_); rintro e w8 ⟨rfl, hb⟩; refine ⟨_, rfl, ?_⟩; have n0_ := Aside0.mk (below_step (by repeat (first | (with_reducible first | exact HB.out | apply below_alloc | apply pw_below_drewN | apply below_drew1) | exact HB.out)) hb); clear HB; have HB := n0_; clear n0_; (try clear hb); (try clear hb2); (try clear hk); (try clear hi)) | ((with_reducible refine gate_callee (f := 20) rfl ?_); refine goesL_ (some 17) rfl rfl Tryd.func20 (by kernel_rfl) rfl #[.slice A0 l0.length c0, .int .i64 40] rfl (by (try simp only [List.map_toArray, List.map_cons, List.map_nil]); first | done | rfl | (simp only [List.length_drop, List.length_take]; rfl)) ?_; (with_reducible refine (lockfastref11_Made.calls k _ _ l0 40 t254 _ ?side1 ?side2 A5.out).mono ?_); (case side1 => repeat (first | exact (Kd.C_below HR0.out HB.out) | (with_reducible refine Kd.C_alloc ?_ _) | (with_reducible refine Kd.C_drewN ?_ _) | (with_reducible refine Kd.C_drew ?_))); (case side2 => exact HC0.out); rintro e w9 ⟨v255, rfl, ho0, hb⟩; refine ⟨_, rfl, ?_⟩; have n0_ := Aside0.mk (Kd.R_lower ho0 (below_size (by repeat (first | (with_reducible first | exact HB.out | apply below_alloc | apply pw_below_drewN | apply below_drew1) | exact HB.out)))); have n1_ := Aside0.mk (below_step (by repeat (first | (with_reducible first | exact HB.out | apply below_alloc | apply pw_below_drewN | apply below_drew1) | exact HB.out)) hb); clear HB; have HO256 := n0_; have HB := n1_; clear n0_ n1_; (try clear hb); (try clear hb2); (try clear hk); (try clear hi); (try clear ho0); obtain ⟨Ao10, co10, eo10⟩ := Kd.R_slice HO256.out; subst eo10) | ((with_reducible refine gate_callee (f := 16) rfl ?_); refine goesL_ (some 20) rfl rfl Tryd.func16 (by kernel_rfl) rfl #[.slice Ao10 t254.length co10] rfl (by (try simp only [List.map_toArray, List.map_cons, List.map_nil]); first | done | rfl | (simp only [List.length_drop, List.length_take]; rfl)) ?_; (with_reducible refine (tile_Chunks.calls k _ _ t254 t257 t258 _ ?side1 ?side2 A6.out).mono ?_); (case side1 => repeat (first | exact (Kd.R_reads' HO256.out).2.2 | (with_reducible refine Kd.C_alloc ?_ _) | (with_reducible refine Kd.C_drewN ?_ _) | (with_reducible refine Kd.C_drew ?_))); (case side2 => exact (Kd.R_reads' HO256.out).2.1); rintro e w11 ⟨v259, rfl, ho0, hb⟩; refine ⟨_, rfl, ?_⟩; have n0_ := Aside0.mk (Kd.R_below (by (with_reducible repeat (first | apply Kd.R_alloc | apply Kd.R_drewN | apply Kd.R_drew)); exact HO256.out) hb); have n1_ := Aside0.mk (Kd.R_lower ho0 (below_size (by repeat (first | (with_reducible first | exact HB.out | apply below_alloc | apply pw_below_drewN | apply below_drew1) | exact HB.out)))); have n2_ := Aside0.mk (below_step (by repeat (first | (with_reducible first | exact HB.out | apply below_alloc | apply pw_below_drewN | apply below_drew1) | exact HB.out)) hb); clear HO256; clear HB; have HO256 := n0_; have HO260 := n1_; have HB := n2_; clear n0_ n1_ n2_; (try clear hb); (try clear hb2); (try clear hk); (try clear hi); (try clear ho0)))
    (try simp only [Act.put, List.setIfInBounds_toArray, List.set_cons_zero, List.set_cons_succ])
    go_cut [31] (fun v31 wc => ∃ (kq : Nat) (x31_6 : Bool), v31 = .bool x31_6 ∧ Aside0 (lockfastlaw11_TileRows.j0 kq t253 t254 t257 x31_6 = some r) ∧ Aside0 (kq ≤ k) ∧ Aside0 (Kd.R (Kd.int .u64) 27 wc w.heap.size (fun _ => True) (.slice Ao10 t254.length co10) t254) ∧ Aside0 (Kd.R k29 29 wc w.heap.size (fun _ => True) v259 t257) ∧ Aside0 (Below w.heap.size w wc))
    case first =>
      have H := HC7.out
      clear HC7
      by_cases c12 : t258 = true
      · subst c12
        have H1 : (lockfastlaw11_TileRows.j0 k t253 t254 t257 ((t257.length : Int) != (t254.length : Int))) = some r := by rw [if_pos rfl] at H; exact H
        clear H
        have H := H1
        clear H1
        have H' := Aside0.mk H
        clear H
        obtain ⟨Ao13, co13, eo13⟩ := Kd.R_slice HO260.out
        subst eo13
        go_wp2
        go_meet
        case rel => exact ⟨_, (((t257.length : Int) != (t254.length : Int))), (by first | rfl | (simp; done) | (simp [*]; done)), H', ⟨by first | omega | exact Nat.le_refl _⟩, ⟨by (with_reducible repeat (first | apply Kd.R_alloc | apply Kd.R_drewN | apply Kd.R_drew)); exact HO256.out⟩, ⟨by (with_reducible repeat (first | apply Kd.R_alloc | apply Kd.R_drewN | apply Kd.R_drew)); exact HO260.out⟩, ⟨by repeat (first | (with_reducible first | exact HB.out | apply below_alloc | apply pw_below_drewN | apply below_drew1) | exact HB.out)⟩⟩
      · replace c12 := Bool.eq_false_iff.mpr c12
        subst c12
        have H1 : (lockfastlaw11_TileRows.j0 k t253 t254 t257 true) = some r := by rw [if_neg (show ¬ (false = true) by decide)] at H; exact H
        clear H
        have H := H1
        clear H1
        have H' := Aside0.mk H
        clear H
        go_wp2
        go_meet
        case rel => exact ⟨_, (true), (by first | rfl | (simp; done) | (simp [*]; done)), H', ⟨by first | omega | exact Nat.le_refl _⟩, ⟨by (with_reducible repeat (first | apply Kd.R_alloc | apply Kd.R_drewN | apply Kd.R_drew)); exact HO256.out⟩, ⟨by (with_reducible repeat (first | apply Kd.R_alloc | apply Kd.R_drewN | apply Kd.R_drew)); exact HO260.out⟩, ⟨by repeat (first | (with_reducible first | exact HB.out | apply below_alloc | apply pw_below_drewN | apply below_drew1) | exact HB.out)⟩⟩
    case rest =>
      clear HC7
      try clear c1
      try clear c2
      try clear p2
      try clear c3
      try clear c3b0
      try clear c3b1
      try clear c4
      try clear c12
      obtain ⟨kq, x31_6, rfl, HA, HJ6, HO_4, HO_5, HB⟩ := hcut
      cases kq with
      | zero => exact absurd HA.out (by simp [lockfastlaw11_TileRows.j0])
      | succ kj6 =>
        have H := HA.out
        clear HA
        simp only [lockfastlaw11_TileRows.j0] at H
        by_cases c14 : x31_6 = true
        · subst c14
          have H1 : (some false) = some r := by rw [if_pos rfl] at H; exact H
          clear H
          have H := H1
          clear H1
          obtain rfl := Option.some.inj H
          go_wp2
          go_ret
          exact ⟨by first | rfl | (simp [errW_none, errW_some] <;> rfl) | (simp [*, errW_none, errW_some] <;> rfl), by repeat (first | (with_reducible first | exact HB.out | apply below_alloc | apply pw_below_drewN | apply below_drew1) | exact HB.out)⟩
        · replace c14 := Bool.eq_false_iff.mpr c14
          subst c14
          have H1 : ((tile_Rows.f kj6 t254).bind fun t261 => (lockfastlaw11_TileRows.l0 kj6 t253 t254 t257 (-2) t261 (t261.length : Int) 0)) = some r := by rw [if_neg (show ¬ (false = true) by decide)] at H; exact H
          clear H
          have H := H1
          clear H1
          replace H := Option.bind_eq_some_iff.mp H
          obtain ⟨t261, A150, H⟩ := H
          replace H : (lockfastlaw11_TileRows.l0 kj6 t253 t254 t257 (-2) t261 (t261.length : Int) 0) = some r := H
          have A15 := Aside0.mk A150
          clear A150
          have H' := Aside0.mk H
          clear H
          go_wp2_with (first | ((with_reducible refine gate_callee (f := 21) rfl ?_); refine goesL_ (some 33) rfl rfl Tryd.func21 (by kernel_rfl) rfl #[.slice Ao10 t254.length co10] rfl (by (try simp only [List.map_toArray, List.map_cons, List.map_nil]); first | done | rfl | (simp only [List.length_drop, List.length_take]; rfl)) ?_; (with_reducible refine (tile_Rows.calls kj6 _ _ t254 t261 _ ?side1 ?side2 A15.out).mono ?_); (case side1 => repeat (first | exact (Kd.R_reads' HO_4.out).2.2 | (with_reducible refine Kd.C_alloc ?_ _) | (with_reducible refine Kd.C_drewN ?_ _) | (with_reducible refine Kd.C_drew ?_))); (case side2 => exact (Kd.R_reads' HO_4.out).2.1); rintro e w16 ⟨v262, rfl, ho0, hb⟩; refine ⟨_, rfl, ?_⟩; have n0_ := Aside0.mk (Kd.R_below (by (with_reducible repeat (first | apply Kd.R_alloc | apply Kd.R_drewN | apply Kd.R_drew)); exact HO_4.out) hb); have n1_ := Aside0.mk (Kd.R_below (by (with_reducible repeat (first | apply Kd.R_alloc | apply Kd.R_drewN | apply Kd.R_drew)); exact HO_5.out) hb); have n2_ := Aside0.mk (Kd.R_lower ho0 (below_size (by repeat (first | (with_reducible first | exact HB.out | apply below_alloc | apply pw_below_drewN | apply below_drew1) | exact HB.out)))); have n3_ := Aside0.mk (below_step (by repeat (first | (with_reducible first | exact HB.out | apply below_alloc | apply pw_below_drewN | apply below_drew1) | exact HB.out)) hb); clear HO_4; clear HO_5; clear HB; have HO_4 := n0_; have HO_5 := n1_; have HO263 := n2_; have HB := n3_; clear n0_ n1_ n2_ n3_; (try clear hb); (try clear hb2); (try clear hk); (try clear hi); (try clear ho0); obtain ⟨Ao17, co17, eo17⟩ := Kd.R_slice HO263.out; subst eo17))
          go_loopg [7, 35] kj6 (fun kq v7 v35 w' => ∃ (x7_2 : Int) (x35_2 : Int), v7 = .int .i64 x7_2 ∧ v35 = .int .i64 x35_2 ∧ Aside0 (lockfastlaw11_TileRows.l0 kq t253 t254 t257 x7_2 t261 (t261.length : Int) x35_2 = some r) ∧ Aside0 (kq ≤ kj6) ∧ Aside0 (Kd.R (Kd.int .u64) 27 w' w.heap.size (fun _ => True) (.slice Ao10 t254.length co10) t254) ∧ Aside0 (Kd.R k29 29 w' w.heap.size (fun _ => True) v259 t257) ∧ Aside0 (Kd.R k36 36 w' w.heap.size (fun _ => True) (.slice Ao17 t261.length co17) t261) ∧ Aside0 (Below w.heap.size w w'))
          case atStart => exact ⟨((-2)), (0), (by first | rfl | (simp; done) | (simp [*]; done)), (by first | rfl | (simp; done) | (simp [*]; done)), H', ⟨Nat.le_refl _⟩, ⟨by (with_reducible repeat (first | apply Kd.R_alloc | apply Kd.R_drewN | apply Kd.R_drew)); exact HO_4.out⟩, ⟨by (with_reducible repeat (first | apply Kd.R_alloc | apply Kd.R_drewN | apply Kd.R_drew)); exact HO_5.out⟩, ⟨by (with_reducible repeat (first | apply Kd.R_alloc | apply Kd.R_drewN | apply Kd.R_drew)); exact HO263.out⟩, ⟨by repeat (first | (with_reducible first | exact HB.out | apply below_alloc | apply pw_below_drewN | apply below_drew1) | exact HB.out)⟩⟩
          case round =>
            clear H'
            try clear c1
            try clear c2
            try clear p2
            try clear c3
            try clear c3b0
            try clear c3b1
            try clear c4
            try clear c12
            try clear c14
            try clear c15
            try clear c16
            try clear p2
            obtain ⟨x7_2, x35_2, rfl, rfl, HA, HK2, HO_4, HO_5, HO_33, HB⟩ := hrel
            cases gk with
            | zero => exact absurd HA.out (by simp [lockfastlaw11_TileRows.l0])
            | succ k2 =>
              have H := HA.out
              clear HA
              simp only [lockfastlaw11_TileRows.l0] at H
              by_cases c18 : x35_2 < (t261.length : Int)
              · rw [if_pos c18] at H
                have c18b0 : decide (x35_2 < (t261.length : Int)) = true := decide_eq_true c18
                clear c18
                by_cases c19 : 0 ≤ x35_2
                · rw [if_pos c19] at H
                  have c19b0 : decide (0 ≤ x35_2) = true := decide_eq_true c19
                  clear c19
                  by_cases c20 : x35_2 < (t261.length : Int)
                  · rw [if_pos c20] at H
                    have c20b0 : decide (x35_2 < (t261.length : Int)) = true := decide_eq_true c20
                    clear c20
                    have HC21 := Aside0.mk H
                    clear H
                    have p264 : 0 ≤ (x35_2 : Int) := of_decide_eq_true (by first | (with_reducible assumption) | assumption)
                    have q264 : x35_2 < (t261.length : Int) := of_decide_eq_true (by first | (with_reducible assumption) | assumption)
                    obtain ⟨ad264, e264, hx264_0, hx264_1⟩ := at_T36 (Kd.R_reads' HO_33.out).2.2 x35_2 p264 q264
                    cases e264
                    replace p264 := eq_true p264
                    replace q264 := eq_true q264
                    go_upto_region 12 with (first | ((with_reducible refine gate_dst (N := 9) rfl ?_); (try (refine gate_guard (by rfl) ?_; dsimp only)); refine box_event ?hg (N := 9) ?hd (cs := #[.int .i64 0, .int .i64 0]) (t := 36) ?hr ?_; (case hd => rfl); (case hg => rfl); (case hr => first | (go_simp; done) | (go_simp; rfl)); intro gb265 hg w22 hbox hb; have n0_ := Aside0.mk (Kd.R_below (by (with_reducible repeat (first | apply Kd.R_alloc | apply Kd.R_drewN | apply Kd.R_drew)); exact HO_4.out) hb); have n1_ := Aside0.mk (Kd.R_below (by (with_reducible repeat (first | apply Kd.R_alloc | apply Kd.R_drewN | apply Kd.R_drew)); exact HO_5.out) hb); have n2_ := Aside0.mk (Kd.R_below (Kd.R_elderB (by (with_reducible repeat (first | apply Kd.R_alloc | apply Kd.R_drewN | apply Kd.R_drew)); exact HO_33.out) gb265 (Nat.le_of_eq hg.symm)) hb); have n3_ := Aside0.mk (below_step (by repeat (first | (with_reducible first | exact HB.out | apply below_alloc | apply pw_below_drewN | apply below_drew1) | exact HB.out)) hb); have n4_ := Aside0.mk (hbox); have n5_ := Aside0.mk ((by rw [hg]; exact (below_size (by repeat (first | (with_reducible first | exact HB.out | apply below_alloc | apply pw_below_drewN | apply below_drew1) | exact HB.out))) : w.heap.size ≤ gb265)); have n6_ := Aside0.mk ((by rw [hg]; exact (below_size (by repeat (first | (with_reducible first | exact HB.out | apply below_alloc | apply pw_below_drewN | apply below_drew1) | exact HB.out))) : w.heap.size ≤ gb265)); clear HO_4; clear HO_5; clear HO_33; clear HB; have HO_4 := n0_; have HO_5 := n1_; have HO_33 := n2_; have HB := n3_; have BK265 := n4_; have GW265 := n5_; have GE265 := n6_; clear n0_ n1_ n2_ n3_ n4_ n5_ n6_; clear hb hbox hg; have hcz23_0 : w22.cell? ⟨gb265, 0, none⟩ = some (.int .i64 0) := (blk_cell BK265.out 0).trans rfl; have hcz23_1 : w22.cell? ⟨gb265, 1, none⟩ = some (.int .i64 0) := (blk_cell BK265.out 1).trans rfl; have hfz23_0 := blk_frozen BK265.out 0; have hfz23_1 := blk_frozen BK265.out 1))
                    (try simp only [Act.put, List.setIfInBounds_toArray, List.set_cons_zero, List.set_cons_succ])
                    go_cut [67] (fun v67 wc => ∃ (kq : Nat) (x67_20 : Bool), v67 = .bool x67_20 ∧ Aside0 (lockfastlaw11_TileRows.j2 kq t253 t254 t257 t261 (t261.length : Int) x35_2 x67_20 ((rd_T36 t261 x35_2).f0) ((rd_T36 t261 x35_2).f1) = some r) ∧ Aside0 (kq ≤ k2) ∧ Aside0 (Kd.R (Kd.int .u64) 27 wc w.heap.size (fun _ => True) (.slice Ao10 t254.length co10) t254) ∧ Aside0 (Kd.R k29 29 wc w.heap.size (fun _ => True) v259 t257) ∧ Aside0 (Kd.R k36 36 wc w.heap.size (fun k_ => k_ ≠ gb265) (.slice (some ad264) t261.length co17) t261) ∧ Aside0 (wc.heap[gb265]? = some (.cells #[.int .i64 ((rd_T36 t261 x35_2).f0), .int .i64 ((rd_T36 t261 x35_2).f1)] 36 (0, 0))) ∧ Aside0 (Below w.heap.size w wc))
                    case first =>
                      have H := HC21.out
                      clear HC21
                      by_cases c24 : ((rd_T36 t261 x35_2).f1) < 1
                      · rw [if_pos c24] at H
                        have c24b0 : decide (((rd_T36 t261 x35_2).f1) < 1) = true := decide_eq_true c24
                        clear c24
                        (first | rw [c24b0] | (simp only [i64_w, i32_w]; rw [c24b0]) | skip)
                        have H' := Aside0.mk H
                        clear H
                        have hcz25_0 : w22.cell? ⟨gb265, 0, none⟩ = some (.int .i64 0) := (blk_cell BK265.out 0).trans rfl
                        have hcz25_1 : w22.cell? ⟨gb265, 1, none⟩ = some (.int .i64 0) := (blk_cell BK265.out 1).trans rfl
                        have hfz25_0 := blk_frozen BK265.out 0
                        have hfz25_1 := blk_frozen BK265.out 1
                        go_wp2
                        go_meet
                        case rel => exact ⟨_, (true), (by first | rfl | (simp; done) | (simp [*]; done)), H', ⟨by have := HJ6.out; have := HK2.out; first | omega | exact Nat.le_refl _⟩, ⟨by (with_reducible repeat (first | apply Kd.R_alloc | apply Kd.R_drewN | apply Kd.R_drew)); exact Kd.R_mono (Kd.R_far (p := ⟨gb265, 1, none⟩) (Kd.R_far (p := ⟨gb265, 0, none⟩) (Kd.R_types HO_4.out BK265.out (by decide)) (fun _ hk => hk.2) (.int .i64 ((rd_T36 t261 x35_2).f0))) (fun _ hk => hk.2) (.int .i64 ((rd_T36 t261 x35_2).f1))) (fun _ hk => trivial)⟩, ⟨by (with_reducible repeat (first | apply Kd.R_alloc | apply Kd.R_drewN | apply Kd.R_drew)); exact Kd.R_mono (Kd.R_far (p := ⟨gb265, 1, none⟩) (Kd.R_far (p := ⟨gb265, 0, none⟩) (Kd.R_types HO_5.out BK265.out (by decide)) (fun _ hk => hk.2) (.int .i64 ((rd_T36 t261 x35_2).f0))) (fun _ hk => hk.2) (.int .i64 ((rd_T36 t261 x35_2).f1))) (fun _ hk => trivial)⟩, ⟨by (with_reducible repeat (first | apply Kd.R_alloc | apply Kd.R_drewN | apply Kd.R_drew)); exact Kd.R_mono (Kd.R_far (p := ⟨gb265, 1, none⟩) (Kd.R_far (p := ⟨gb265, 0, none⟩) (Kd.R_mono HO_33.out (fun k_ hk => (⟨hk, hk.2⟩ : _ ∧ k_ ≠ gb265))) (fun _ hk => hk.2) (.int .i64 ((rd_T36 t261 x35_2).f0))) (fun _ hk => hk.2) (.int .i64 ((rd_T36 t261 x35_2).f1))) (fun _ hk => hk.1.2)⟩, ⟨by (with_reducible repeat (first | refine blk_drewN ?_ _ | refine blk_drew ?_ | refine blk_alloc ?_ _)); refine blk_put (cs := #[.int .i64 ((rd_T36 t261 x35_2).f0), .int .i64 0]) ?_ 1 _ rfl; (with_reducible repeat (first | refine blk_drewN ?_ _ | refine blk_drew ?_ | refine blk_alloc ?_ _)); refine blk_put (cs := #[.int .i64 0, .int .i64 0]) ?_ 0 _ rfl; (with_reducible repeat (first | refine blk_drewN ?_ _ | refine blk_drew ?_ | refine blk_alloc ?_ _)); exact BK265.out⟩, ⟨by repeat (first | (with_reducible first | exact HB.out | apply below_alloc | apply pw_below_drewN | apply below_drew1 | refine below_set ?_ GE265.out) | exact HB.out)⟩⟩
                      · rw [if_neg c24] at H
                        have c24b0 : decide (((rd_T36 t261 x35_2).f1) < 1) = false := decide_eq_false c24
                        clear c24
                        (first | rw [c24b0] | (simp only [i64_w, i32_w]; rw [c24b0]) | skip)
                        by_cases c26 : ((rd_T36 t261 x35_2).f0) ≤ (wrap64 (x7_2 + 1))
                        · rw [if_pos c26] at H
                          have c26b0 : decide (((rd_T36 t261 x35_2).f0) ≤ (wrap64 (x7_2 + 1))) = true := decide_eq_true c26
                          clear c26
                          by_cases c27 : x7_2 ≥ (-1)
                          · rw [if_pos c27] at H
                            have c27b0 : decide ((-1) ≤ x7_2) = true := decide_eq_true c27
                            clear c27
                            have H' := Aside0.mk H
                            clear H
                            have hcz28_0 : w22.cell? ⟨gb265, 0, none⟩ = some (.int .i64 0) := (blk_cell BK265.out 0).trans rfl
                            have hcz28_1 : w22.cell? ⟨gb265, 1, none⟩ = some (.int .i64 0) := (blk_cell BK265.out 1).trans rfl
                            have hfz28_0 := blk_frozen BK265.out 0
                            have hfz28_1 := blk_frozen BK265.out 1
                            go_wp2
                            go_meet
                            case rel => exact ⟨_, (true), (by first | rfl | (simp; done) | (simp [*]; done)), H', ⟨by have := HJ6.out; have := HK2.out; first | omega | exact Nat.le_refl _⟩, ⟨by (with_reducible repeat (first | apply Kd.R_alloc | apply Kd.R_drewN | apply Kd.R_drew)); exact Kd.R_mono (Kd.R_far (p := ⟨gb265, 1, none⟩) (Kd.R_far (p := ⟨gb265, 0, none⟩) (Kd.R_types HO_4.out BK265.out (by decide)) (fun _ hk => hk.2) (.int .i64 ((rd_T36 t261 x35_2).f0))) (fun _ hk => hk.2) (.int .i64 ((rd_T36 t261 x35_2).f1))) (fun _ hk => trivial)⟩, ⟨by (with_reducible repeat (first | apply Kd.R_alloc | apply Kd.R_drewN | apply Kd.R_drew)); exact Kd.R_mono (Kd.R_far (p := ⟨gb265, 1, none⟩) (Kd.R_far (p := ⟨gb265, 0, none⟩) (Kd.R_types HO_5.out BK265.out (by decide)) (fun _ hk => hk.2) (.int .i64 ((rd_T36 t261 x35_2).f0))) (fun _ hk => hk.2) (.int .i64 ((rd_T36 t261 x35_2).f1))) (fun _ hk => trivial)⟩, ⟨by (with_reducible repeat (first | apply Kd.R_alloc | apply Kd.R_drewN | apply Kd.R_drew)); exact Kd.R_mono (Kd.R_far (p := ⟨gb265, 1, none⟩) (Kd.R_far (p := ⟨gb265, 0, none⟩) (Kd.R_mono HO_33.out (fun k_ hk => (⟨hk, hk.2⟩ : _ ∧ k_ ≠ gb265))) (fun _ hk => hk.2) (.int .i64 ((rd_T36 t261 x35_2).f0))) (fun _ hk => hk.2) (.int .i64 ((rd_T36 t261 x35_2).f1))) (fun _ hk => hk.1.2)⟩, ⟨by (with_reducible repeat (first | refine blk_drewN ?_ _ | refine blk_drew ?_ | refine blk_alloc ?_ _)); refine blk_put (cs := #[.int .i64 ((rd_T36 t261 x35_2).f0), .int .i64 0]) ?_ 1 _ rfl; (with_reducible repeat (first | refine blk_drewN ?_ _ | refine blk_drew ?_ | refine blk_alloc ?_ _)); refine blk_put (cs := #[.int .i64 0, .int .i64 0]) ?_ 0 _ rfl; (with_reducible repeat (first | refine blk_drewN ?_ _ | refine blk_drew ?_ | refine blk_alloc ?_ _)); exact BK265.out⟩, ⟨by repeat (first | (with_reducible first | exact HB.out | apply below_alloc | apply pw_below_drewN | apply below_drew1 | refine below_set ?_ GE265.out) | exact HB.out)⟩⟩
                          · rw [if_neg c27] at H
                            have c27b0 : decide ((-1) ≤ x7_2) = false := decide_eq_false c27
                            clear c27
                            by_cases c29 : ((rd_T36 t261 x35_2).f0) < 0
                            · rw [if_pos c29] at H
                              have c29b0 : decide (((rd_T36 t261 x35_2).f0) < 0) = true := decide_eq_true c29
                              clear c29
                              have H' := Aside0.mk H
                              clear H
                              have hcz30_0 : w22.cell? ⟨gb265, 0, none⟩ = some (.int .i64 0) := (blk_cell BK265.out 0).trans rfl
                              have hcz30_1 : w22.cell? ⟨gb265, 1, none⟩ = some (.int .i64 0) := (blk_cell BK265.out 1).trans rfl
                              have hfz30_0 := blk_frozen BK265.out 0
                              have hfz30_1 := blk_frozen BK265.out 1
                              go_wp2
                              go_meet
                              case rel => exact ⟨_, (true), (by first | rfl | (simp; done) | (simp [*]; done)), H', ⟨by have := HJ6.out; have := HK2.out; first | omega | exact Nat.le_refl _⟩, ⟨by (with_reducible repeat (first | apply Kd.R_alloc | apply Kd.R_drewN | apply Kd.R_drew)); exact Kd.R_mono (Kd.R_far (p := ⟨gb265, 1, none⟩) (Kd.R_far (p := ⟨gb265, 0, none⟩) (Kd.R_types HO_4.out BK265.out (by decide)) (fun _ hk => hk.2) (.int .i64 ((rd_T36 t261 x35_2).f0))) (fun _ hk => hk.2) (.int .i64 ((rd_T36 t261 x35_2).f1))) (fun _ hk => trivial)⟩, ⟨by (with_reducible repeat (first | apply Kd.R_alloc | apply Kd.R_drewN | apply Kd.R_drew)); exact Kd.R_mono (Kd.R_far (p := ⟨gb265, 1, none⟩) (Kd.R_far (p := ⟨gb265, 0, none⟩) (Kd.R_types HO_5.out BK265.out (by decide)) (fun _ hk => hk.2) (.int .i64 ((rd_T36 t261 x35_2).f0))) (fun _ hk => hk.2) (.int .i64 ((rd_T36 t261 x35_2).f1))) (fun _ hk => trivial)⟩, ⟨by (with_reducible repeat (first | apply Kd.R_alloc | apply Kd.R_drewN | apply Kd.R_drew)); exact Kd.R_mono (Kd.R_far (p := ⟨gb265, 1, none⟩) (Kd.R_far (p := ⟨gb265, 0, none⟩) (Kd.R_mono HO_33.out (fun k_ hk => (⟨hk, hk.2⟩ : _ ∧ k_ ≠ gb265))) (fun _ hk => hk.2) (.int .i64 ((rd_T36 t261 x35_2).f0))) (fun _ hk => hk.2) (.int .i64 ((rd_T36 t261 x35_2).f1))) (fun _ hk => hk.1.2)⟩, ⟨by (with_reducible repeat (first | refine blk_drewN ?_ _ | refine blk_drew ?_ | refine blk_alloc ?_ _)); refine blk_put (cs := #[.int .i64 ((rd_T36 t261 x35_2).f0), .int .i64 0]) ?_ 1 _ rfl; (with_reducible repeat (first | refine blk_drewN ?_ _ | refine blk_drew ?_ | refine blk_alloc ?_ _)); refine blk_put (cs := #[.int .i64 0, .int .i64 0]) ?_ 0 _ rfl; (with_reducible repeat (first | refine blk_drewN ?_ _ | refine blk_drew ?_ | refine blk_alloc ?_ _)); exact BK265.out⟩, ⟨by repeat (first | (with_reducible first | exact HB.out | apply below_alloc | apply pw_below_drewN | apply below_drew1 | refine below_set ?_ GE265.out) | exact HB.out)⟩⟩
                            · rw [if_neg c29] at H
                              have c29b0 : decide (((rd_T36 t261 x35_2).f0) < 0) = false := decide_eq_false c29
                              clear c29
                              have H' := Aside0.mk H
                              clear H
                              have hcz31_0 : w22.cell? ⟨gb265, 0, none⟩ = some (.int .i64 0) := (blk_cell BK265.out 0).trans rfl
                              have hcz31_1 : w22.cell? ⟨gb265, 1, none⟩ = some (.int .i64 0) := (blk_cell BK265.out 1).trans rfl
                              have hfz31_0 := blk_frozen BK265.out 0
                              have hfz31_1 := blk_frozen BK265.out 1
                              go_wp2
                              go_meet
                              case rel => exact ⟨_, (decide ((wrap64 (((rd_T36 t261 x35_2).f0) + ((rd_T36 t261 x35_2).f1))) > (t254.length : Int))), (by first | rfl | (simp; done) | (simp [*]; done)), H', ⟨by have := HJ6.out; have := HK2.out; first | omega | exact Nat.le_refl _⟩, ⟨by (with_reducible repeat (first | apply Kd.R_alloc | apply Kd.R_drewN | apply Kd.R_drew)); exact Kd.R_mono (Kd.R_far (p := ⟨gb265, 1, none⟩) (Kd.R_far (p := ⟨gb265, 0, none⟩) (Kd.R_types HO_4.out BK265.out (by decide)) (fun _ hk => hk.2) (.int .i64 ((rd_T36 t261 x35_2).f0))) (fun _ hk => hk.2) (.int .i64 ((rd_T36 t261 x35_2).f1))) (fun _ hk => trivial)⟩, ⟨by (with_reducible repeat (first | apply Kd.R_alloc | apply Kd.R_drewN | apply Kd.R_drew)); exact Kd.R_mono (Kd.R_far (p := ⟨gb265, 1, none⟩) (Kd.R_far (p := ⟨gb265, 0, none⟩) (Kd.R_types HO_5.out BK265.out (by decide)) (fun _ hk => hk.2) (.int .i64 ((rd_T36 t261 x35_2).f0))) (fun _ hk => hk.2) (.int .i64 ((rd_T36 t261 x35_2).f1))) (fun _ hk => trivial)⟩, ⟨by (with_reducible repeat (first | apply Kd.R_alloc | apply Kd.R_drewN | apply Kd.R_drew)); exact Kd.R_mono (Kd.R_far (p := ⟨gb265, 1, none⟩) (Kd.R_far (p := ⟨gb265, 0, none⟩) (Kd.R_mono HO_33.out (fun k_ hk => (⟨hk, hk.2⟩ : _ ∧ k_ ≠ gb265))) (fun _ hk => hk.2) (.int .i64 ((rd_T36 t261 x35_2).f0))) (fun _ hk => hk.2) (.int .i64 ((rd_T36 t261 x35_2).f1))) (fun _ hk => hk.1.2)⟩, ⟨by (with_reducible repeat (first | refine blk_drewN ?_ _ | refine blk_drew ?_ | refine blk_alloc ?_ _)); refine blk_put (cs := #[.int .i64 ((rd_T36 t261 x35_2).f0), .int .i64 0]) ?_ 1 _ rfl; (with_reducible repeat (first | refine blk_drewN ?_ _ | refine blk_drew ?_ | refine blk_alloc ?_ _)); refine blk_put (cs := #[.int .i64 0, .int .i64 0]) ?_ 0 _ rfl; (with_reducible repeat (first | refine blk_drewN ?_ _ | refine blk_drew ?_ | refine blk_alloc ?_ _)); exact BK265.out⟩, ⟨by repeat (first | (with_reducible first | exact HB.out | apply below_alloc | apply pw_below_drewN | apply below_drew1 | refine below_set ?_ GE265.out) | exact HB.out)⟩⟩
                        · rw [if_neg c26] at H
                          have c26b0 : decide (((rd_T36 t261 x35_2).f0) ≤ (wrap64 (x7_2 + 1))) = false := decide_eq_false c26
                          clear c26
                          by_cases c32 : ((rd_T36 t261 x35_2).f0) < 0
                          · rw [if_pos c32] at H
                            have c32b0 : decide (((rd_T36 t261 x35_2).f0) < 0) = true := decide_eq_true c32
                            clear c32
                            have H' := Aside0.mk H
                            clear H
                            have hcz33_0 : w22.cell? ⟨gb265, 0, none⟩ = some (.int .i64 0) := (blk_cell BK265.out 0).trans rfl
                            have hcz33_1 : w22.cell? ⟨gb265, 1, none⟩ = some (.int .i64 0) := (blk_cell BK265.out 1).trans rfl
                            have hfz33_0 := blk_frozen BK265.out 0
                            have hfz33_1 := blk_frozen BK265.out 1
                            go_wp2
                            go_meet
                            case rel => exact ⟨_, (true), (by first | rfl | (simp; done) | (simp [*]; done)), H', ⟨by have := HJ6.out; have := HK2.out; first | omega | exact Nat.le_refl _⟩, ⟨by (with_reducible repeat (first | apply Kd.R_alloc | apply Kd.R_drewN | apply Kd.R_drew)); exact Kd.R_mono (Kd.R_far (p := ⟨gb265, 1, none⟩) (Kd.R_far (p := ⟨gb265, 0, none⟩) (Kd.R_types HO_4.out BK265.out (by decide)) (fun _ hk => hk.2) (.int .i64 ((rd_T36 t261 x35_2).f0))) (fun _ hk => hk.2) (.int .i64 ((rd_T36 t261 x35_2).f1))) (fun _ hk => trivial)⟩, ⟨by (with_reducible repeat (first | apply Kd.R_alloc | apply Kd.R_drewN | apply Kd.R_drew)); exact Kd.R_mono (Kd.R_far (p := ⟨gb265, 1, none⟩) (Kd.R_far (p := ⟨gb265, 0, none⟩) (Kd.R_types HO_5.out BK265.out (by decide)) (fun _ hk => hk.2) (.int .i64 ((rd_T36 t261 x35_2).f0))) (fun _ hk => hk.2) (.int .i64 ((rd_T36 t261 x35_2).f1))) (fun _ hk => trivial)⟩, ⟨by (with_reducible repeat (first | apply Kd.R_alloc | apply Kd.R_drewN | apply Kd.R_drew)); exact Kd.R_mono (Kd.R_far (p := ⟨gb265, 1, none⟩) (Kd.R_far (p := ⟨gb265, 0, none⟩) (Kd.R_mono HO_33.out (fun k_ hk => (⟨hk, hk.2⟩ : _ ∧ k_ ≠ gb265))) (fun _ hk => hk.2) (.int .i64 ((rd_T36 t261 x35_2).f0))) (fun _ hk => hk.2) (.int .i64 ((rd_T36 t261 x35_2).f1))) (fun _ hk => hk.1.2)⟩, ⟨by (with_reducible repeat (first | refine blk_drewN ?_ _ | refine blk_drew ?_ | refine blk_alloc ?_ _)); refine blk_put (cs := #[.int .i64 ((rd_T36 t261 x35_2).f0), .int .i64 0]) ?_ 1 _ rfl; (with_reducible repeat (first | refine blk_drewN ?_ _ | refine blk_drew ?_ | refine blk_alloc ?_ _)); refine blk_put (cs := #[.int .i64 0, .int .i64 0]) ?_ 0 _ rfl; (with_reducible repeat (first | refine blk_drewN ?_ _ | refine blk_drew ?_ | refine blk_alloc ?_ _)); exact BK265.out⟩, ⟨by repeat (first | (with_reducible first | exact HB.out | apply below_alloc | apply pw_below_drewN | apply below_drew1 | refine below_set ?_ GE265.out) | exact HB.out)⟩⟩
                          · rw [if_neg c32] at H
                            have c32b0 : decide (((rd_T36 t261 x35_2).f0) < 0) = false := decide_eq_false c32
                            clear c32
                            have H' := Aside0.mk H
                            clear H
                            have hcz34_0 : w22.cell? ⟨gb265, 0, none⟩ = some (.int .i64 0) := (blk_cell BK265.out 0).trans rfl
                            have hcz34_1 : w22.cell? ⟨gb265, 1, none⟩ = some (.int .i64 0) := (blk_cell BK265.out 1).trans rfl
                            have hfz34_0 := blk_frozen BK265.out 0
                            have hfz34_1 := blk_frozen BK265.out 1
                            go_wp2
                            go_meet
                            case rel => exact ⟨_, (decide ((wrap64 (((rd_T36 t261 x35_2).f0) + ((rd_T36 t261 x35_2).f1))) > (t254.length : Int))), (by first | rfl | (simp; done) | (simp [*]; done)), H', ⟨by have := HJ6.out; have := HK2.out; first | omega | exact Nat.le_refl _⟩, ⟨by (with_reducible repeat (first | apply Kd.R_alloc | apply Kd.R_drewN | apply Kd.R_drew)); exact Kd.R_mono (Kd.R_far (p := ⟨gb265, 1, none⟩) (Kd.R_far (p := ⟨gb265, 0, none⟩) (Kd.R_types HO_4.out BK265.out (by decide)) (fun _ hk => hk.2) (.int .i64 ((rd_T36 t261 x35_2).f0))) (fun _ hk => hk.2) (.int .i64 ((rd_T36 t261 x35_2).f1))) (fun _ hk => trivial)⟩, ⟨by (with_reducible repeat (first | apply Kd.R_alloc | apply Kd.R_drewN | apply Kd.R_drew)); exact Kd.R_mono (Kd.R_far (p := ⟨gb265, 1, none⟩) (Kd.R_far (p := ⟨gb265, 0, none⟩) (Kd.R_types HO_5.out BK265.out (by decide)) (fun _ hk => hk.2) (.int .i64 ((rd_T36 t261 x35_2).f0))) (fun _ hk => hk.2) (.int .i64 ((rd_T36 t261 x35_2).f1))) (fun _ hk => trivial)⟩, ⟨by (with_reducible repeat (first | apply Kd.R_alloc | apply Kd.R_drewN | apply Kd.R_drew)); exact Kd.R_mono (Kd.R_far (p := ⟨gb265, 1, none⟩) (Kd.R_far (p := ⟨gb265, 0, none⟩) (Kd.R_mono HO_33.out (fun k_ hk => (⟨hk, hk.2⟩ : _ ∧ k_ ≠ gb265))) (fun _ hk => hk.2) (.int .i64 ((rd_T36 t261 x35_2).f0))) (fun _ hk => hk.2) (.int .i64 ((rd_T36 t261 x35_2).f1))) (fun _ hk => hk.1.2)⟩, ⟨by (with_reducible repeat (first | refine blk_drewN ?_ _ | refine blk_drew ?_ | refine blk_alloc ?_ _)); refine blk_put (cs := #[.int .i64 ((rd_T36 t261 x35_2).f0), .int .i64 0]) ?_ 1 _ rfl; (with_reducible repeat (first | refine blk_drewN ?_ _ | refine blk_drew ?_ | refine blk_alloc ?_ _)); refine blk_put (cs := #[.int .i64 0, .int .i64 0]) ?_ 0 _ rfl; (with_reducible repeat (first | refine blk_drewN ?_ _ | refine blk_drew ?_ | refine blk_alloc ?_ _)); exact BK265.out⟩, ⟨by repeat (first | (with_reducible first | exact HB.out | apply below_alloc | apply pw_below_drewN | apply below_drew1 | refine below_set ?_ GE265.out) | exact HB.out)⟩⟩
                    case rest =>
                      clear HC21
                      try clear c1
                      try clear c2
                      try clear p2
                      try clear q2
                      try clear hx2
                      try clear c3
                      try clear c3b0
                      try clear c3b1
                      try clear c4
                      try clear p6
                      try clear c12
                      try clear c14
                      try clear c15
                      try clear c16
                      try clear c18
                      try clear c18b0
                      try clear c19
                      try clear c19b0
                      try clear c20
                      try clear c20b0
                      try clear c21
                      try clear c24
                      try clear c24b0
                      try clear c26
                      try clear c26b0
                      try clear p26
                      try clear q26
                      try clear hx26
                      try clear c27
                      try clear c27b0
                      try clear c29
                      try clear c29b0
                      try clear c32
                      try clear c32b0
                      try clear hcz23_0
                      try clear hcz23_1
                      try clear hcz25_0
                      try clear hcz25_1
                      try clear hcz28_0
                      try clear hcz28_1
                      try clear hcz30_0
                      try clear hcz30_1
                      try clear hcz31_0
                      try clear hcz31_1
                      try clear hcz33_0
                      try clear hcz33_1
                      try clear hcz34_0
                      try clear hcz34_1
                      try clear hfz23_0
                      try clear hfz23_1
                      try clear hfz25_0
                      try clear hfz25_1
                      try clear hfz28_0
                      try clear hfz28_1
                      try clear hfz30_0
                      try clear hfz30_1
                      try clear hfz31_0
                      try clear hfz31_1
                      try clear hfz33_0
                      try clear hfz33_1
                      try clear hfz34_0
                      try clear hfz34_1
                      try clear hx264_0
                      try clear hx264_1
                      try clear p2
                      try clear p264
                      try clear q264
                      obtain ⟨kq, x67_20, rfl, HA, HJ20, HO_4, HO_5, HO_33, BK265, HB⟩ := hcut
                      cases kq with
                      | zero => exact absurd HA.out (by simp [lockfastlaw11_TileRows.j2])
                      | succ kj20 =>
                        have H := HA.out
                        clear HA
                        simp only [lockfastlaw11_TileRows.j2] at H
                        by_cases c35 : x67_20 = true
                        · subst c35
                          have H1 : (some false) = some r := by rw [if_pos rfl] at H; exact H
                          clear H
                          have H := H1
                          clear H1
                          obtain rfl := Option.some.inj H
                          go_wp2
                          go_ret
                          exact ⟨by first | rfl | (simp [errW_none, errW_some] <;> rfl) | (simp [*, errW_none, errW_some] <;> rfl), by repeat (first | (with_reducible first | exact HB.out | apply below_alloc | apply pw_below_drewN | apply below_drew1 | refine below_set ?_ GE265.out) | exact HB.out)⟩
                        · replace c35 := Bool.eq_false_iff.mpr c35
                          subst c35
                          have H1 : (if ((rd_T36 t261 x35_2).f0) > 0 then (if 0 ≤ (wrap64 (((rd_T36 t261 x35_2).f0) - 1)) then (if (wrap64 (((rd_T36 t261 x35_2).f0) - 1)) < (t257.length : Int) then (if ((rd_T29 t257 (wrap64 (((rd_T36 t261 x35_2).f0) - 1))).f0) = 0 then (lockfastlaw11_TileRows.j3 kj20 t253 t254 t257 t261 (t261.length : Int) x35_2 true ((rd_T36 t261 x35_2).f0) ((rd_T36 t261 x35_2).f1)) else ((chunk_Empty.f ((rd_T29 t257 (wrap64 (((rd_T36 t261 x35_2).f0) - 1))).f0) ((rd_T29 t257 (wrap64 (((rd_T36 t261 x35_2).f0) - 1))).f1) ((rd_T29 t257 (wrap64 (((rd_T36 t261 x35_2).f0) - 1))).f2) ((rd_T29 t257 (wrap64 (((rd_T36 t261 x35_2).f0) - 1))).f3) ((rd_T29 t257 (wrap64 (((rd_T36 t261 x35_2).f0) - 1))).f4)).bind fun t268 => (if t268 = true then (lockfastlaw11_TileRows.j3 kj20 t253 t254 t257 t261 (t261.length : Int) x35_2 true ((rd_T36 t261 x35_2).f0) ((rd_T36 t261 x35_2).f1)) else (if (wrap64 (((rd_T36 t261 x35_2).f0) + ((rd_T36 t261 x35_2).f1))) < (t254.length : Int) then (if 0 ≤ (wrap64 (((rd_T36 t261 x35_2).f0) + ((rd_T36 t261 x35_2).f1))) then (if (wrap64 (((rd_T36 t261 x35_2).f0) + ((rd_T36 t261 x35_2).f1))) < (t257.length : Int) then (if ((rd_T29 t257 (wrap64 (((rd_T36 t261 x35_2).f0) + ((rd_T36 t261 x35_2).f1)))).f0) = 0 then (lockfastlaw11_TileRows.j3 kj20 t253 t254 t257 t261 (t261.length : Int) x35_2 true ((rd_T36 t261 x35_2).f0) ((rd_T36 t261 x35_2).f1)) else ((chunk_Empty.f ((rd_T29 t257 (wrap64 (((rd_T36 t261 x35_2).f0) + ((rd_T36 t261 x35_2).f1)))).f0) ((rd_T29 t257 (wrap64 (((rd_T36 t261 x35_2).f0) + ((rd_T36 t261 x35_2).f1)))).f1) ((rd_T29 t257 (wrap64 (((rd_T36 t261 x35_2).f0) + ((rd_T36 t261 x35_2).f1)))).f2) ((rd_T29 t257 (wrap64 (((rd_T36 t261 x35_2).f0) + ((rd_T36 t261 x35_2).f1)))).f3) ((rd_T29 t257 (wrap64 (((rd_T36 t261 x35_2).f0) + ((rd_T36 t261 x35_2).f1)))).f4)).bind fun t271 => (lockfastlaw11_TileRows.j3 kj20 t253 t254 t257 t261 (t261.length : Int) x35_2 t271 ((rd_T36 t261 x35_2).f0) ((rd_T36 t261 x35_2).f1)))) else (none)) else (none)) else (lockfastlaw11_TileRows.j3 kj20 t253 t254 t257 t261 (t261.length : Int) x35_2 false ((rd_T36 t261 x35_2).f0) ((rd_T36 t261 x35_2).f1)))))) else (none)) else (none)) else (if (wrap64 (((rd_T36 t261 x35_2).f0) + ((rd_T36 t261 x35_2).f1))) < (t254.length : Int) then (if 0 ≤ (wrap64 (((rd_T36 t261 x35_2).f0) + ((rd_T36 t261 x35_2).f1))) then (if (wrap64 (((rd_T36 t261 x35_2).f0) + ((rd_T36 t261 x35_2).f1))) < (t257.length : Int) then (if ((rd_T29 t257 (wrap64 (((rd_T36 t261 x35_2).f0) + ((rd_T36 t261 x35_2).f1)))).f0) = 0 then (lockfastlaw11_TileRows.j3 kj20 t253 t254 t257 t261 (t261.length : Int) x35_2 true ((rd_T36 t261 x35_2).f0) ((rd_T36 t261 x35_2).f1)) else ((chunk_Empty.f ((rd_T29 t257 (wrap64 (((rd_T36 t261 x35_2).f0) + ((rd_T36 t261 x35_2).f1)))).f0) ((rd_T29 t257 (wrap64 (((rd_T36 t261 x35_2).f0) + ((rd_T36 t261 x35_2).f1)))).f1) ((rd_T29 t257 (wrap64 (((rd_T36 t261 x35_2).f0) + ((rd_T36 t261 x35_2).f1)))).f2) ((rd_T29 t257 (wrap64 (((rd_T36 t261 x35_2).f0) + ((rd_T36 t261 x35_2).f1)))).f3) ((rd_T29 t257 (wrap64 (((rd_T36 t261 x35_2).f0) + ((rd_T36 t261 x35_2).f1)))).f4)).bind fun t274 => (lockfastlaw11_TileRows.j3 kj20 t253 t254 t257 t261 (t261.length : Int) x35_2 t274 ((rd_T36 t261 x35_2).f0) ((rd_T36 t261 x35_2).f1)))) else (none)) else (none)) else (lockfastlaw11_TileRows.j3 kj20 t253 t254 t257 t261 (t261.length : Int) x35_2 false ((rd_T36 t261 x35_2).f0) ((rd_T36 t261 x35_2).f1)))) = some r := by rw [if_neg (show ¬ (false = true) by decide)] at H; exact H
                          clear H
                          have H := H1
                          clear H1
                          have HC36 := Aside0.mk H
                          clear H
                          go_upto_region 14 with (fail)
                          go_cut [122] (fun v122 wc => ∃ (kq : Nat) (x122_35 : Bool), v122 = .bool x122_35 ∧ Aside0 (lockfastlaw11_TileRows.j3 kq t253 t254 t257 t261 (t261.length : Int) x35_2 x122_35 ((rd_T36 t261 x35_2).f0) ((rd_T36 t261 x35_2).f1) = some r) ∧ Aside0 (kq ≤ kj20) ∧ Aside0 (Kd.R (Kd.int .u64) 27 wc w.heap.size (fun _ => True) (.slice Ao10 t254.length co10) t254) ∧ Aside0 (Kd.R k29 29 wc w.heap.size (fun _ => True) v259 t257) ∧ Aside0 (Kd.R k36 36 wc w.heap.size (fun k_ => k_ ≠ gb265) (.slice (some ad264) t261.length co17) t261) ∧ Aside0 (wc.heap[gb265]? = some (.cells #[.int .i64 ((rd_T36 t261 x35_2).f0), .int .i64 ((rd_T36 t261 x35_2).f1)] 36 (0, 0))) ∧ Aside0 (Below w.heap.size w wc))
                          case first =>
                            have H := HC36.out
                            clear HC36
                            by_cases c37 : ((rd_T36 t261 x35_2).f0) > 0
                            · rw [if_pos c37] at H
                              have c37b0 : decide (0 < ((rd_T36 t261 x35_2).f0)) = true := decide_eq_true c37
                              clear c37
                              (first | rw [c37b0] | (simp only [i64_w, i32_w]; rw [c37b0]) | skip)
                              obtain ⟨ji38, hji38⟩ : ∃ j_ : Int, (wrap64 (((rd_T36 t261 x35_2).f0) - 1)) = j_ := ⟨_, rfl⟩
                              replace H : (if 0 ≤ (ji38) then (if (ji38) < (t257.length : Int) then (if ((rd_T29 t257 (ji38)).f0) = 0 then (lockfastlaw11_TileRows.j3 kj20 t253 t254 t257 t261 (t261.length : Int) x35_2 true ((rd_T36 t261 x35_2).f0) ((rd_T36 t261 x35_2).f1)) else ((chunk_Empty.f ((rd_T29 t257 (ji38)).f0) ((rd_T29 t257 (ji38)).f1) ((rd_T29 t257 (ji38)).f2) ((rd_T29 t257 (ji38)).f3) ((rd_T29 t257 (ji38)).f4)).bind fun t268 => (if t268 = true then (lockfastlaw11_TileRows.j3 kj20 t253 t254 t257 t261 (t261.length : Int) x35_2 true ((rd_T36 t261 x35_2).f0) ((rd_T36 t261 x35_2).f1)) else (if (wrap64 (((rd_T36 t261 x35_2).f0) + ((rd_T36 t261 x35_2).f1))) < (t254.length : Int) then (if 0 ≤ (wrap64 (((rd_T36 t261 x35_2).f0) + ((rd_T36 t261 x35_2).f1))) then (if (wrap64 (((rd_T36 t261 x35_2).f0) + ((rd_T36 t261 x35_2).f1))) < (t257.length : Int) then (if ((rd_T29 t257 (wrap64 (((rd_T36 t261 x35_2).f0) + ((rd_T36 t261 x35_2).f1)))).f0) = 0 then (lockfastlaw11_TileRows.j3 kj20 t253 t254 t257 t261 (t261.length : Int) x35_2 true ((rd_T36 t261 x35_2).f0) ((rd_T36 t261 x35_2).f1)) else ((chunk_Empty.f ((rd_T29 t257 (wrap64 (((rd_T36 t261 x35_2).f0) + ((rd_T36 t261 x35_2).f1)))).f0) ((rd_T29 t257 (wrap64 (((rd_T36 t261 x35_2).f0) + ((rd_T36 t261 x35_2).f1)))).f1) ((rd_T29 t257 (wrap64 (((rd_T36 t261 x35_2).f0) + ((rd_T36 t261 x35_2).f1)))).f2) ((rd_T29 t257 (wrap64 (((rd_T36 t261 x35_2).f0) + ((rd_T36 t261 x35_2).f1)))).f3) ((rd_T29 t257 (wrap64 (((rd_T36 t261 x35_2).f0) + ((rd_T36 t261 x35_2).f1)))).f4)).bind fun t271 => (lockfastlaw11_TileRows.j3 kj20 t253 t254 t257 t261 (t261.length : Int) x35_2 t271 ((rd_T36 t261 x35_2).f0) ((rd_T36 t261 x35_2).f1)))) else (none)) else (none)) else (lockfastlaw11_TileRows.j3 kj20 t253 t254 t257 t261 (t261.length : Int) x35_2 false ((rd_T36 t261 x35_2).f0) ((rd_T36 t261 x35_2).f1)))))) else (none)) else (none)) = some r := by first | (rw [hji38] at H; exact H) | (simp only [hji38] at H ⊢; exact H)
                              have hji38w : (IntKind.i64.wrap (((rd_T36 t261 x35_2).f0) - 1)) = ji38 := (i64_w _).trans hji38
                              by_cases c39 : 0 ≤ (ji38)
                              · rw [if_pos c39] at H
                                have c39b0 : decide (0 ≤ (ji38)) = true := decide_eq_true c39
                                clear c39
                                by_cases c40 : (ji38) < (t257.length : Int)
                                · rw [if_pos c40] at H
                                  have c40b0 : decide ((ji38) < (t257.length : Int)) = true := decide_eq_true c40
                                  clear c40
                                  by_cases c41 : ((rd_T29 t257 (ji38)).f0) = 0
                                  · rw [if_pos c41] at H
                                    have c41b0 : (((rd_T29 t257 (ji38)).f0) == 0) = true := beq_iff_eq.mpr c41
                                    have c41b1 : (((rd_T29 t257 (ji38)).f0) != 0) = false := bne_eq_false_iff_eq.mpr c41
                                    clear c41
                                    have H' := Aside0.mk H
                                    clear H
                                    have hcz42_0 : wc.cell? ⟨gb265, 0, none⟩ = some (.int .i64 ((rd_T36 t261 x35_2).f0)) := (blk_cell BK265.out 0).trans rfl
                                    have hcz42_1 : wc.cell? ⟨gb265, 1, none⟩ = some (.int .i64 ((rd_T36 t261 x35_2).f1)) := (blk_cell BK265.out 1).trans rfl
                                    have hfz42_0 := blk_frozen BK265.out 0
                                    have hfz42_1 := blk_frozen BK265.out 1
                                    obtain ⟨Ao43, co43, eo43⟩ := Kd.R_slice HO_5.out
                                    subst eo43
                                    have p266 : 0 ≤ ((ji38) : Int) := of_decide_eq_true (by first | (with_reducible assumption) | assumption)
                                    have q266 : (ji38) < (t257.length : Int) := of_decide_eq_true (by first | (with_reducible assumption) | assumption)
                                    obtain ⟨ad266, e266, hx266_0, hx266_1, hx266_2, hx266_3, hx266_4⟩ := at_T29 (Kd.R_reads' HO_5.out).2.2 (ji38) p266 q266
                                    cases e266
                                    replace p266 := eq_true p266
                                    replace q266 := eq_true q266
                                    go_wp2
                                    go_meet
                                    case rel => exact ⟨_, (true), (by first | rfl | (simp; done) | (simp [*]; done)), H', ⟨by have := HJ6.out; have := HK2.out; have := HJ20.out; first | omega | exact Nat.le_refl _⟩, ⟨by (with_reducible repeat (first | apply Kd.R_alloc | apply Kd.R_drewN | apply Kd.R_drew)); exact HO_4.out⟩, ⟨by (with_reducible repeat (first | apply Kd.R_alloc | apply Kd.R_drewN | apply Kd.R_drew)); exact HO_5.out⟩, ⟨by (with_reducible repeat (first | apply Kd.R_alloc | apply Kd.R_drewN | apply Kd.R_drew)); exact HO_33.out⟩, ⟨by (with_reducible repeat (first | refine blk_drewN ?_ _ | refine blk_drew ?_ | refine blk_alloc ?_ _)); exact BK265.out⟩, ⟨by repeat (first | (with_reducible first | exact HB.out | apply below_alloc | apply pw_below_drewN | apply below_drew1 | refine below_set ?_ GE265.out) | exact HB.out)⟩⟩
                                  · rw [if_neg c41] at H
                                    have c41b0 : (((rd_T29 t257 (ji38)).f0) == 0) = false := beq_eq_false_iff_ne.mpr c41
                                    have c41b1 : (((rd_T29 t257 (ji38)).f0) != 0) = true := bne_iff_ne.mpr c41
                                    replace H := Option.bind_eq_some_iff.mp H
                                    obtain ⟨t268, A440, H⟩ := H
                                    replace H : (if t268 = true then (lockfastlaw11_TileRows.j3 kj20 t253 t254 t257 t261 (t261.length : Int) x35_2 true ((rd_T36 t261 x35_2).f0) ((rd_T36 t261 x35_2).f1)) else (if (wrap64 (((rd_T36 t261 x35_2).f0) + ((rd_T36 t261 x35_2).f1))) < (t254.length : Int) then (if 0 ≤ (wrap64 (((rd_T36 t261 x35_2).f0) + ((rd_T36 t261 x35_2).f1))) then (if (wrap64 (((rd_T36 t261 x35_2).f0) + ((rd_T36 t261 x35_2).f1))) < (t257.length : Int) then (if ((rd_T29 t257 (wrap64 (((rd_T36 t261 x35_2).f0) + ((rd_T36 t261 x35_2).f1)))).f0) = 0 then (lockfastlaw11_TileRows.j3 kj20 t253 t254 t257 t261 (t261.length : Int) x35_2 true ((rd_T36 t261 x35_2).f0) ((rd_T36 t261 x35_2).f1)) else ((chunk_Empty.f ((rd_T29 t257 (wrap64 (((rd_T36 t261 x35_2).f0) + ((rd_T36 t261 x35_2).f1)))).f0) ((rd_T29 t257 (wrap64 (((rd_T36 t261 x35_2).f0) + ((rd_T36 t261 x35_2).f1)))).f1) ((rd_T29 t257 (wrap64 (((rd_T36 t261 x35_2).f0) + ((rd_T36 t261 x35_2).f1)))).f2) ((rd_T29 t257 (wrap64 (((rd_T36 t261 x35_2).f0) + ((rd_T36 t261 x35_2).f1)))).f3) ((rd_T29 t257 (wrap64 (((rd_T36 t261 x35_2).f0) + ((rd_T36 t261 x35_2).f1)))).f4)).bind fun t271 => (lockfastlaw11_TileRows.j3 kj20 t253 t254 t257 t261 (t261.length : Int) x35_2 t271 ((rd_T36 t261 x35_2).f0) ((rd_T36 t261 x35_2).f1)))) else (none)) else (none)) else (lockfastlaw11_TileRows.j3 kj20 t253 t254 t257 t261 (t261.length : Int) x35_2 false ((rd_T36 t261 x35_2).f0) ((rd_T36 t261 x35_2).f1)))) = some r := H
                                    have A44 := Aside0.mk A440
                                    clear A440
                                    by_cases c45 : t268 = true
                                    · subst c45
                                      have H1 : (lockfastlaw11_TileRows.j3 kj20 t253 t254 t257 t261 (t261.length : Int) x35_2 true ((rd_T36 t261 x35_2).f0) ((rd_T36 t261 x35_2).f1)) = some r := by rw [if_pos rfl] at H; exact H
                                      clear H
                                      have H := H1
                                      clear H1
                                      have H' := Aside0.mk H
                                      clear H
                                      have hcz46_0 : wc.cell? ⟨gb265, 0, none⟩ = some (.int .i64 ((rd_T36 t261 x35_2).f0)) := (blk_cell BK265.out 0).trans rfl
                                      have hcz46_1 : wc.cell? ⟨gb265, 1, none⟩ = some (.int .i64 ((rd_T36 t261 x35_2).f1)) := (blk_cell BK265.out 1).trans rfl
                                      have hfz46_0 := blk_frozen BK265.out 0
                                      have hfz46_1 := blk_frozen BK265.out 1
                                      obtain ⟨Ao47, co47, eo47⟩ := Kd.R_slice HO_5.out
                                      subst eo47
                                      have p266 : 0 ≤ ((ji38) : Int) := of_decide_eq_true (by first | (with_reducible assumption) | assumption)
                                      have q266 : (ji38) < (t257.length : Int) := of_decide_eq_true (by first | (with_reducible assumption) | assumption)
                                      obtain ⟨ad266, e266, hx266_0, hx266_1, hx266_2, hx266_3, hx266_4⟩ := at_T29 (Kd.R_reads' HO_5.out).2.2 (ji38) p266 q266
                                      cases e266
                                      replace p266 := eq_true p266
                                      replace q266 := eq_true q266
                                      have p267 : 0 ≤ ((ji38) : Int) := of_decide_eq_true (by first | (with_reducible assumption) | assumption)
                                      have q267 : (ji38) < (t257.length : Int) := of_decide_eq_true (by first | (with_reducible assumption) | assumption)
                                      obtain ⟨ad267, e267, hx267_0, hx267_1, hx267_2, hx267_3, hx267_4⟩ := at_T29 (Kd.R_reads' HO_5.out).2.2 (ji38) p267 q267
                                      obtain rfl : ad266 = ad267 := (by injection e267)
                                      replace p267 := eq_true p267
                                      replace q267 := eq_true q267
                                      go_wp2_with (first | (go_at_call 22; (with_reducible refine (chunk_Empty.calls ((rd_T29 t257 (ji38)).f0) ((rd_T29 t257 (ji38)).f1) ((rd_T29 t257 (ji38)).f2) ((rd_T29 t257 (ji38)).f3) ((rd_T29 t257 (ji38)).f4) true _ A44.out).mono ?_); rintro e w48 ⟨rfl, hb⟩; have n0_ := Aside0.mk (Kd.R_below (by (with_reducible repeat (first | apply Kd.R_alloc | apply Kd.R_drewN | apply Kd.R_drew)); exact HO_4.out) hb); have n1_ := Aside0.mk (Kd.R_below (by (with_reducible repeat (first | apply Kd.R_alloc | apply Kd.R_drewN | apply Kd.R_drew)); exact HO_5.out) hb); have n2_ := Aside0.mk (Kd.R_below (by (with_reducible repeat (first | apply Kd.R_alloc | apply Kd.R_drewN | apply Kd.R_drew)); exact HO_33.out) hb); have n3_ := Aside0.mk (blk_below (g := gb265) (o := .cells #[.int .i64 ((rd_T36 t261 x35_2).f0), .int .i64 ((rd_T36 t261 x35_2).f1)] 36 (0, 0)) (by (with_reducible repeat (first | refine blk_drewN ?_ _ | refine blk_drew ?_ | refine blk_alloc ?_ _)); exact BK265.out) hb); have n4_ := Aside0.mk (below_step (by repeat (first | (with_reducible first | exact HB.out | apply below_alloc | apply pw_below_drewN | apply below_drew1 | refine below_set ?_ GE265.out) | exact HB.out)) hb); clear HO_4; clear HO_5; clear HO_33; clear BK265; clear HB; have HO_4 := n0_; have HO_5 := n1_; have HO_33 := n2_; have BK265 := n3_; have HB := n4_; clear n0_ n1_ n2_ n3_ n4_; (try clear hb); (try clear hb2); (try clear hk); (try clear hi)))
                                      go_meet
                                      case rel => exact ⟨_, (true), (by first | rfl | (simp; done) | (simp [*]; done)), H', ⟨by have := HJ6.out; have := HK2.out; have := HJ20.out; first | omega | exact Nat.le_refl _⟩, ⟨by (with_reducible repeat (first | apply Kd.R_alloc | apply Kd.R_drewN | apply Kd.R_drew)); exact HO_4.out⟩, ⟨by (with_reducible repeat (first | apply Kd.R_alloc | apply Kd.R_drewN | apply Kd.R_drew)); exact HO_5.out⟩, ⟨by (with_reducible repeat (first | apply Kd.R_alloc | apply Kd.R_drewN | apply Kd.R_drew)); exact HO_33.out⟩, ⟨by (with_reducible repeat (first | refine blk_drewN ?_ _ | refine blk_drew ?_ | refine blk_alloc ?_ _)); exact BK265.out⟩, ⟨by repeat (first | (with_reducible first | exact HB.out | apply below_alloc | apply pw_below_drewN | apply below_drew1 | refine below_set ?_ GE265.out) | exact HB.out)⟩⟩
                                    · replace c45 := Bool.eq_false_iff.mpr c45
                                      subst c45
                                      have H1 : (if (wrap64 (((rd_T36 t261 x35_2).f0) + ((rd_T36 t261 x35_2).f1))) < (t254.length : Int) then (if 0 ≤ (wrap64 (((rd_T36 t261 x35_2).f0) + ((rd_T36 t261 x35_2).f1))) then (if (wrap64 (((rd_T36 t261 x35_2).f0) + ((rd_T36 t261 x35_2).f1))) < (t257.length : Int) then (if ((rd_T29 t257 (wrap64 (((rd_T36 t261 x35_2).f0) + ((rd_T36 t261 x35_2).f1)))).f0) = 0 then (lockfastlaw11_TileRows.j3 kj20 t253 t254 t257 t261 (t261.length : Int) x35_2 true ((rd_T36 t261 x35_2).f0) ((rd_T36 t261 x35_2).f1)) else ((chunk_Empty.f ((rd_T29 t257 (wrap64 (((rd_T36 t261 x35_2).f0) + ((rd_T36 t261 x35_2).f1)))).f0) ((rd_T29 t257 (wrap64 (((rd_T36 t261 x35_2).f0) + ((rd_T36 t261 x35_2).f1)))).f1) ((rd_T29 t257 (wrap64 (((rd_T36 t261 x35_2).f0) + ((rd_T36 t261 x35_2).f1)))).f2) ((rd_T29 t257 (wrap64 (((rd_T36 t261 x35_2).f0) + ((rd_T36 t261 x35_2).f1)))).f3) ((rd_T29 t257 (wrap64 (((rd_T36 t261 x35_2).f0) + ((rd_T36 t261 x35_2).f1)))).f4)).bind fun t271 => (lockfastlaw11_TileRows.j3 kj20 t253 t254 t257 t261 (t261.length : Int) x35_2 t271 ((rd_T36 t261 x35_2).f0) ((rd_T36 t261 x35_2).f1)))) else (none)) else (none)) else (lockfastlaw11_TileRows.j3 kj20 t253 t254 t257 t261 (t261.length : Int) x35_2 false ((rd_T36 t261 x35_2).f0) ((rd_T36 t261 x35_2).f1))) = some r := by rw [if_neg (show ¬ (false = true) by decide)] at H; exact H
                                      clear H
                                      have H := H1
                                      clear H1
                                      by_cases c49 : (wrap64 (((rd_T36 t261 x35_2).f0) + ((rd_T36 t261 x35_2).f1))) < (t254.length : Int)
                                      · rw [if_pos c49] at H
                                        have c49b0 : decide ((wrap64 (((rd_T36 t261 x35_2).f0) + ((rd_T36 t261 x35_2).f1))) < (t254.length : Int)) = true := decide_eq_true c49
                                        clear c49
                                        obtain ⟨ji50, hji50⟩ : ∃ j_ : Int, (wrap64 (((rd_T36 t261 x35_2).f0) + ((rd_T36 t261 x35_2).f1))) = j_ := ⟨_, rfl⟩
                                        replace H : (if 0 ≤ (ji50) then (if (ji50) < (t257.length : Int) then (if ((rd_T29 t257 (ji50)).f0) = 0 then (lockfastlaw11_TileRows.j3 kj20 t253 t254 t257 t261 (t261.length : Int) x35_2 true ((rd_T36 t261 x35_2).f0) ((rd_T36 t261 x35_2).f1)) else ((chunk_Empty.f ((rd_T29 t257 (ji50)).f0) ((rd_T29 t257 (ji50)).f1) ((rd_T29 t257 (ji50)).f2) ((rd_T29 t257 (ji50)).f3) ((rd_T29 t257 (ji50)).f4)).bind fun t271 => (lockfastlaw11_TileRows.j3 kj20 t253 t254 t257 t261 (t261.length : Int) x35_2 t271 ((rd_T36 t261 x35_2).f0) ((rd_T36 t261 x35_2).f1)))) else (none)) else (none)) = some r := by first | (rw [hji50] at H; exact H) | (simp only [hji50] at H ⊢; exact H)
                                        (try rw [hji50] at c49b0)
                                        (try rw [hji50] at A44)
                                        have hji50w : (IntKind.i64.wrap (((rd_T36 t261 x35_2).f0) + ((rd_T36 t261 x35_2).f1))) = ji50 := (i64_w _).trans hji50
                                        by_cases c51 : 0 ≤ (ji50)
                                        · rw [if_pos c51] at H
                                          have c51b0 : decide (0 ≤ (ji50)) = true := decide_eq_true c51
                                          clear c51
                                          by_cases c52 : (ji50) < (t257.length : Int)
                                          · rw [if_pos c52] at H
                                            have c52b0 : decide ((ji50) < (t257.length : Int)) = true := decide_eq_true c52
                                            clear c52
                                            by_cases c53 : ((rd_T29 t257 (ji50)).f0) = 0
                                            · rw [if_pos c53] at H
                                              have c53b0 : (((rd_T29 t257 (ji50)).f0) == 0) = true := beq_iff_eq.mpr c53
                                              have c53b1 : (((rd_T29 t257 (ji50)).f0) != 0) = false := bne_eq_false_iff_eq.mpr c53
                                              clear c53
                                              have H' := Aside0.mk H
                                              clear H
                                              have hcz54_0 : wc.cell? ⟨gb265, 0, none⟩ = some (.int .i64 ((rd_T36 t261 x35_2).f0)) := (blk_cell BK265.out 0).trans rfl
                                              have hcz54_1 : wc.cell? ⟨gb265, 1, none⟩ = some (.int .i64 ((rd_T36 t261 x35_2).f1)) := (blk_cell BK265.out 1).trans rfl
                                              have hfz54_0 := blk_frozen BK265.out 0
                                              have hfz54_1 := blk_frozen BK265.out 1
                                              obtain ⟨Ao55, co55, eo55⟩ := Kd.R_slice HO_5.out
                                              subst eo55
                                              have p266 : 0 ≤ ((ji38) : Int) := of_decide_eq_true (by first | (with_reducible assumption) | assumption)
                                              have q266 : (ji38) < (t257.length : Int) := of_decide_eq_true (by first | (with_reducible assumption) | assumption)
                                              obtain ⟨ad266, e266, hx266_0, hx266_1, hx266_2, hx266_3, hx266_4⟩ := at_T29 (Kd.R_reads' HO_5.out).2.2 (ji38) p266 q266
                                              cases e266
                                              replace p266 := eq_true p266
                                              replace q266 := eq_true q266
                                              have p267 : 0 ≤ ((ji38) : Int) := of_decide_eq_true (by first | (with_reducible assumption) | assumption)
                                              have q267 : (ji38) < (t257.length : Int) := of_decide_eq_true (by first | (with_reducible assumption) | assumption)
                                              obtain ⟨ad267, e267, hx267_0, hx267_1, hx267_2, hx267_3, hx267_4⟩ := at_T29 (Kd.R_reads' HO_5.out).2.2 (ji38) p267 q267
                                              obtain rfl : ad266 = ad267 := (by injection e267)
                                              replace p267 := eq_true p267
                                              replace q267 := eq_true q267
                                              go_wp2_with (first | (go_at_call 22; (with_reducible refine (chunk_Empty.calls ((rd_T29 t257 (ji38)).f0) ((rd_T29 t257 (ji38)).f1) ((rd_T29 t257 (ji38)).f2) ((rd_T29 t257 (ji38)).f3) ((rd_T29 t257 (ji38)).f4) false _ A44.out).mono ?_); rintro e w56 ⟨rfl, hb⟩; have n0_ := Aside0.mk (Kd.R_below (by (with_reducible repeat (first | apply Kd.R_alloc | apply Kd.R_drewN | apply Kd.R_drew)); exact HO_4.out) hb); have n1_ := Aside0.mk (Kd.R_below (by (with_reducible repeat (first | apply Kd.R_alloc | apply Kd.R_drewN | apply Kd.R_drew)); exact HO_5.out) hb); have n2_ := Aside0.mk (Kd.R_below (by (with_reducible repeat (first | apply Kd.R_alloc | apply Kd.R_drewN | apply Kd.R_drew)); exact HO_33.out) hb); have n3_ := Aside0.mk (blk_below (g := gb265) (o := .cells #[.int .i64 ((rd_T36 t261 x35_2).f0), .int .i64 ((rd_T36 t261 x35_2).f1)] 36 (0, 0)) (by (with_reducible repeat (first | refine blk_drewN ?_ _ | refine blk_drew ?_ | refine blk_alloc ?_ _)); exact BK265.out) hb); have n4_ := Aside0.mk (below_step (by repeat (first | (with_reducible first | exact HB.out | apply below_alloc | apply pw_below_drewN | apply below_drew1 | refine below_set ?_ GE265.out) | exact HB.out)) hb); clear HO_4; clear HO_5; clear HO_33; clear BK265; clear HB; have HO_4 := n0_; have HO_5 := n1_; have HO_33 := n2_; have BK265 := n3_; have HB := n4_; clear n0_ n1_ n2_ n3_ n4_; (try clear hb); (try clear hb2); (try clear hk); (try clear hi); have hcz57_0 : w56.cell? ⟨gb265, 0, none⟩ = some (.int .i64 ((rd_T36 t261 x35_2).f0)) := (blk_cell BK265.out 0).trans rfl; have hcz57_1 : w56.cell? ⟨gb265, 1, none⟩ = some (.int .i64 ((rd_T36 t261 x35_2).f1)) := (blk_cell BK265.out 1).trans rfl; have hfz57_0 := blk_frozen BK265.out 0; have hfz57_1 := blk_frozen BK265.out 1; have p269 : 0 ≤ ((ji50) : Int) := of_decide_eq_true (by first | (with_reducible assumption) | assumption); have q269 : (ji50) < (t257.length : Int) := of_decide_eq_true (by first | (with_reducible assumption) | assumption); obtain ⟨ad269, e269, hx269_0, hx269_1, hx269_2, hx269_3, hx269_4⟩ := at_T29 (Kd.R_reads' HO_5.out).2.2 (ji50) p269 q269; obtain rfl : ad266 = ad269 := (by injection e269); replace p269 := eq_true p269; replace q269 := eq_true q269))
                                              go_meet
                                              case rel => exact ⟨_, (true), (by first | rfl | (simp; done) | (simp [*]; done)), H', ⟨by have := HJ6.out; have := HK2.out; have := HJ20.out; first | omega | exact Nat.le_refl _⟩, ⟨by (with_reducible repeat (first | apply Kd.R_alloc | apply Kd.R_drewN | apply Kd.R_drew)); exact HO_4.out⟩, ⟨by (with_reducible repeat (first | apply Kd.R_alloc | apply Kd.R_drewN | apply Kd.R_drew)); exact HO_5.out⟩, ⟨by (with_reducible repeat (first | apply Kd.R_alloc | apply Kd.R_drewN | apply Kd.R_drew)); exact HO_33.out⟩, ⟨by (with_reducible repeat (first | refine blk_drewN ?_ _ | refine blk_drew ?_ | refine blk_alloc ?_ _)); exact BK265.out⟩, ⟨by repeat (first | (with_reducible first | exact HB.out | apply below_alloc | apply pw_below_drewN | apply below_drew1 | refine below_set ?_ GE265.out) | exact HB.out)⟩⟩
                                            · rw [if_neg c53] at H
                                              have c53b0 : (((rd_T29 t257 (ji50)).f0) == 0) = false := beq_eq_false_iff_ne.mpr c53
                                              have c53b1 : (((rd_T29 t257 (ji50)).f0) != 0) = true := bne_iff_ne.mpr c53
                                              replace H := Option.bind_eq_some_iff.mp H
                                              obtain ⟨t271, A580, H⟩ := H
                                              replace H : (lockfastlaw11_TileRows.j3 kj20 t253 t254 t257 t261 (t261.length : Int) x35_2 t271 ((rd_T36 t261 x35_2).f0) ((rd_T36 t261 x35_2).f1)) = some r := H
                                              have A58 := Aside0.mk A580
                                              clear A580
                                              have H' := Aside0.mk H
                                              clear H
                                              have hcz59_0 : wc.cell? ⟨gb265, 0, none⟩ = some (.int .i64 ((rd_T36 t261 x35_2).f0)) := (blk_cell BK265.out 0).trans rfl
                                              have hcz59_1 : wc.cell? ⟨gb265, 1, none⟩ = some (.int .i64 ((rd_T36 t261 x35_2).f1)) := (blk_cell BK265.out 1).trans rfl
                                              have hfz59_0 := blk_frozen BK265.out 0
                                              have hfz59_1 := blk_frozen BK265.out 1
                                              obtain ⟨Ao60, co60, eo60⟩ := Kd.R_slice HO_5.out
                                              subst eo60
                                              have p266 : 0 ≤ ((ji38) : Int) := of_decide_eq_true (by first | (with_reducible assumption) | assumption)
                                              have q266 : (ji38) < (t257.length : Int) := of_decide_eq_true (by first | (with_reducible assumption) | assumption)
                                              obtain ⟨ad266, e266, hx266_0, hx266_1, hx266_2, hx266_3, hx266_4⟩ := at_T29 (Kd.R_reads' HO_5.out).2.2 (ji38) p266 q266
                                              cases e266
                                              replace p266 := eq_true p266
                                              replace q266 := eq_true q266
                                              have p267 : 0 ≤ ((ji38) : Int) := of_decide_eq_true (by first | (with_reducible assumption) | assumption)
                                              have q267 : (ji38) < (t257.length : Int) := of_decide_eq_true (by first | (with_reducible assumption) | assumption)
                                              obtain ⟨ad267, e267, hx267_0, hx267_1, hx267_2, hx267_3, hx267_4⟩ := at_T29 (Kd.R_reads' HO_5.out).2.2 (ji38) p267 q267
                                              obtain rfl : ad266 = ad267 := (by injection e267)
                                              replace p267 := eq_true p267
                                              replace q267 := eq_true q267
                                              go_wp2_with (first | (go_at_call 22; (with_reducible refine (chunk_Empty.calls ((rd_T29 t257 (ji38)).f0) ((rd_T29 t257 (ji38)).f1) ((rd_T29 t257 (ji38)).f2) ((rd_T29 t257 (ji38)).f3) ((rd_T29 t257 (ji38)).f4) false _ A44.out).mono ?_); rintro e w61 ⟨rfl, hb⟩; have n0_ := Aside0.mk (Kd.R_below (by (with_reducible repeat (first | apply Kd.R_alloc | apply Kd.R_drewN | apply Kd.R_drew)); exact HO_4.out) hb); have n1_ := Aside0.mk (Kd.R_below (by (with_reducible repeat (first | apply Kd.R_alloc | apply Kd.R_drewN | apply Kd.R_drew)); exact HO_5.out) hb); have n2_ := Aside0.mk (Kd.R_below (by (with_reducible repeat (first | apply Kd.R_alloc | apply Kd.R_drewN | apply Kd.R_drew)); exact HO_33.out) hb); have n3_ := Aside0.mk (blk_below (g := gb265) (o := .cells #[.int .i64 ((rd_T36 t261 x35_2).f0), .int .i64 ((rd_T36 t261 x35_2).f1)] 36 (0, 0)) (by (with_reducible repeat (first | refine blk_drewN ?_ _ | refine blk_drew ?_ | refine blk_alloc ?_ _)); exact BK265.out) hb); have n4_ := Aside0.mk (below_step (by repeat (first | (with_reducible first | exact HB.out | apply below_alloc | apply pw_below_drewN | apply below_drew1 | refine below_set ?_ GE265.out) | exact HB.out)) hb); clear HO_4; clear HO_5; clear HO_33; clear BK265; clear HB; have HO_4 := n0_; have HO_5 := n1_; have HO_33 := n2_; have BK265 := n3_; have HB := n4_; clear n0_ n1_ n2_ n3_ n4_; (try clear hb); (try clear hb2); (try clear hk); (try clear hi); have hcz62_0 : w61.cell? ⟨gb265, 0, none⟩ = some (.int .i64 ((rd_T36 t261 x35_2).f0)) := (blk_cell BK265.out 0).trans rfl; have hcz62_1 : w61.cell? ⟨gb265, 1, none⟩ = some (.int .i64 ((rd_T36 t261 x35_2).f1)) := (blk_cell BK265.out 1).trans rfl; have hfz62_0 := blk_frozen BK265.out 0; have hfz62_1 := blk_frozen BK265.out 1; have p269 : 0 ≤ ((ji50) : Int) := of_decide_eq_true (by first | (with_reducible assumption) | assumption); have q269 : (ji50) < (t257.length : Int) := of_decide_eq_true (by first | (with_reducible assumption) | assumption); obtain ⟨ad269, e269, hx269_0, hx269_1, hx269_2, hx269_3, hx269_4⟩ := at_T29 (Kd.R_reads' HO_5.out).2.2 (ji50) p269 q269; obtain rfl : ad266 = ad269 := (by injection e269); replace p269 := eq_true p269; replace q269 := eq_true q269; have p270 : 0 ≤ ((ji50) : Int) := of_decide_eq_true (by first | (with_reducible assumption) | assumption); have q270 : (ji50) < (t257.length : Int) := of_decide_eq_true (by first | (with_reducible assumption) | assumption); obtain ⟨ad270, e270, hx270_0, hx270_1, hx270_2, hx270_3, hx270_4⟩ := at_T29 (Kd.R_reads' HO_5.out).2.2 (ji50) p270 q270; obtain rfl : ad266 = ad270 := (by injection e270); replace p270 := eq_true p270; replace q270 := eq_true q270) | (go_at_call 22; (with_reducible refine (chunk_Empty.calls ((rd_T29 t257 (ji50)).f0) ((rd_T29 t257 (ji50)).f1) ((rd_T29 t257 (ji50)).f2) ((rd_T29 t257 (ji50)).f3) ((rd_T29 t257 (ji50)).f4) t271 _ A58.out).mono ?_); rintro e w63 ⟨rfl, hb⟩; have n0_ := Aside0.mk (Kd.R_below (by (with_reducible repeat (first | apply Kd.R_alloc | apply Kd.R_drewN | apply Kd.R_drew)); exact HO_4.out) hb); have n1_ := Aside0.mk (Kd.R_below (by (with_reducible repeat (first | apply Kd.R_alloc | apply Kd.R_drewN | apply Kd.R_drew)); exact HO_5.out) hb); have n2_ := Aside0.mk (Kd.R_below (by (with_reducible repeat (first | apply Kd.R_alloc | apply Kd.R_drewN | apply Kd.R_drew)); exact HO_33.out) hb); have n3_ := Aside0.mk (blk_below (g := gb265) (o := .cells #[.int .i64 ((rd_T36 t261 x35_2).f0), .int .i64 ((rd_T36 t261 x35_2).f1)] 36 (0, 0)) (by (with_reducible repeat (first | refine blk_drewN ?_ _ | refine blk_drew ?_ | refine blk_alloc ?_ _)); exact BK265.out) hb); have n4_ := Aside0.mk (below_step (by repeat (first | (with_reducible first | exact HB.out | apply below_alloc | apply pw_below_drewN | apply below_drew1 | refine below_set ?_ GE265.out) | exact HB.out)) hb); clear HO_4; clear HO_5; clear HO_33; clear BK265; clear HB; have HO_4 := n0_; have HO_5 := n1_; have HO_33 := n2_; have BK265 := n3_; have HB := n4_; clear n0_ n1_ n2_ n3_ n4_; (try clear hb); (try clear hb2); (try clear hk); (try clear hi)))
                                              go_meet
                                              case rel => exact ⟨_, (t271), (by first | rfl | (simp; done) | (simp [*]; done)), H', ⟨by have := HJ6.out; have := HK2.out; have := HJ20.out; first | omega | exact Nat.le_refl _⟩, ⟨by (with_reducible repeat (first | apply Kd.R_alloc | apply Kd.R_drewN | apply Kd.R_drew)); exact HO_4.out⟩, ⟨by (with_reducible repeat (first | apply Kd.R_alloc | apply Kd.R_drewN | apply Kd.R_drew)); exact HO_5.out⟩, ⟨by (with_reducible repeat (first | apply Kd.R_alloc | apply Kd.R_drewN | apply Kd.R_drew)); exact HO_33.out⟩, ⟨by (with_reducible repeat (first | refine blk_drewN ?_ _ | refine blk_drew ?_ | refine blk_alloc ?_ _)); exact BK265.out⟩, ⟨by repeat (first | (with_reducible first | exact HB.out | apply below_alloc | apply pw_below_drewN | apply below_drew1 | refine below_set ?_ GE265.out) | exact HB.out)⟩⟩
                                          · rw [if_neg c52] at H
                                            exact absurd H (by simp)
                                        · rw [if_neg c51] at H
                                          exact absurd H (by simp)
                                      · rw [if_neg c49] at H
                                        have c49b0 : decide ((wrap64 (((rd_T36 t261 x35_2).f0) + ((rd_T36 t261 x35_2).f1))) < (t254.length : Int)) = false := decide_eq_false c49
                                        clear c49
                                        have H' := Aside0.mk H
                                        clear H
                                        have hcz64_0 : wc.cell? ⟨gb265, 0, none⟩ = some (.int .i64 ((rd_T36 t261 x35_2).f0)) := (blk_cell BK265.out 0).trans rfl
                                        have hcz64_1 : wc.cell? ⟨gb265, 1, none⟩ = some (.int .i64 ((rd_T36 t261 x35_2).f1)) := (blk_cell BK265.out 1).trans rfl
                                        have hfz64_0 := blk_frozen BK265.out 0
                                        have hfz64_1 := blk_frozen BK265.out 1
                                        obtain ⟨Ao65, co65, eo65⟩ := Kd.R_slice HO_5.out
                                        subst eo65
                                        have p266 : 0 ≤ ((ji38) : Int) := of_decide_eq_true (by first | (with_reducible assumption) | assumption)
                                        have q266 : (ji38) < (t257.length : Int) := of_decide_eq_true (by first | (with_reducible assumption) | assumption)
                                        obtain ⟨ad266, e266, hx266_0, hx266_1, hx266_2, hx266_3, hx266_4⟩ := at_T29 (Kd.R_reads' HO_5.out).2.2 (ji38) p266 q266
                                        cases e266
                                        replace p266 := eq_true p266
                                        replace q266 := eq_true q266
                                        have p267 : 0 ≤ ((ji38) : Int) := of_decide_eq_true (by first | (with_reducible assumption) | assumption)
                                        have q267 : (ji38) < (t257.length : Int) := of_decide_eq_true (by first | (with_reducible assumption) | assumption)
                                        obtain ⟨ad267, e267, hx267_0, hx267_1, hx267_2, hx267_3, hx267_4⟩ := at_T29 (Kd.R_reads' HO_5.out).2.2 (ji38) p267 q267
                                        obtain rfl : ad266 = ad267 := (by injection e267)
                                        replace p267 := eq_true p267
                                        replace q267 := eq_true q267
                                        go_wp2_with (first | (go_at_call 22; (with_reducible refine (chunk_Empty.calls ((rd_T29 t257 (ji38)).f0) ((rd_T29 t257 (ji38)).f1) ((rd_T29 t257 (ji38)).f2) ((rd_T29 t257 (ji38)).f3) ((rd_T29 t257 (ji38)).f4) false _ A44.out).mono ?_); rintro e w66 ⟨rfl, hb⟩; have n0_ := Aside0.mk (Kd.R_below (by (with_reducible repeat (first | apply Kd.R_alloc | apply Kd.R_drewN | apply Kd.R_drew)); exact HO_4.out) hb); have n1_ := Aside0.mk (Kd.R_below (by (with_reducible repeat (first | apply Kd.R_alloc | apply Kd.R_drewN | apply Kd.R_drew)); exact HO_5.out) hb); have n2_ := Aside0.mk (Kd.R_below (by (with_reducible repeat (first | apply Kd.R_alloc | apply Kd.R_drewN | apply Kd.R_drew)); exact HO_33.out) hb); have n3_ := Aside0.mk (blk_below (g := gb265) (o := .cells #[.int .i64 ((rd_T36 t261 x35_2).f0), .int .i64 ((rd_T36 t261 x35_2).f1)] 36 (0, 0)) (by (with_reducible repeat (first | refine blk_drewN ?_ _ | refine blk_drew ?_ | refine blk_alloc ?_ _)); exact BK265.out) hb); have n4_ := Aside0.mk (below_step (by repeat (first | (with_reducible first | exact HB.out | apply below_alloc | apply pw_below_drewN | apply below_drew1 | refine below_set ?_ GE265.out) | exact HB.out)) hb); clear HO_4; clear HO_5; clear HO_33; clear BK265; clear HB; have HO_4 := n0_; have HO_5 := n1_; have HO_33 := n2_; have BK265 := n3_; have HB := n4_; clear n0_ n1_ n2_ n3_ n4_; (try clear hb); (try clear hb2); (try clear hk); (try clear hi); have hcz67_0 : w66.cell? ⟨gb265, 0, none⟩ = some (.int .i64 ((rd_T36 t261 x35_2).f0)) := (blk_cell BK265.out 0).trans rfl; have hcz67_1 : w66.cell? ⟨gb265, 1, none⟩ = some (.int .i64 ((rd_T36 t261 x35_2).f1)) := (blk_cell BK265.out 1).trans rfl; have hfz67_0 := blk_frozen BK265.out 0; have hfz67_1 := blk_frozen BK265.out 1))
                                        go_meet
                                        case rel => exact ⟨_, (false), (by first | rfl | (simp; done) | (simp [*]; done)), H', ⟨by have := HJ6.out; have := HK2.out; have := HJ20.out; first | omega | exact Nat.le_refl _⟩, ⟨by (with_reducible repeat (first | apply Kd.R_alloc | apply Kd.R_drewN | apply Kd.R_drew)); exact HO_4.out⟩, ⟨by (with_reducible repeat (first | apply Kd.R_alloc | apply Kd.R_drewN | apply Kd.R_drew)); exact HO_5.out⟩, ⟨by (with_reducible repeat (first | apply Kd.R_alloc | apply Kd.R_drewN | apply Kd.R_drew)); exact HO_33.out⟩, ⟨by (with_reducible repeat (first | refine blk_drewN ?_ _ | refine blk_drew ?_ | refine blk_alloc ?_ _)); exact BK265.out⟩, ⟨by repeat (first | (with_reducible first | exact HB.out | apply below_alloc | apply pw_below_drewN | apply below_drew1 | refine below_set ?_ GE265.out) | exact HB.out)⟩⟩
                                · rw [if_neg c40] at H
                                  exact absurd H (by simp)
                              · rw [if_neg c39] at H
                                exact absurd H (by simp)
                            · rw [if_neg c37] at H
                              have c37b0 : decide (0 < ((rd_T36 t261 x35_2).f0)) = false := decide_eq_false c37
                              clear c37
                              (first | rw [c37b0] | (simp only [i64_w, i32_w]; rw [c37b0]) | skip)
                              by_cases c68 : (wrap64 (((rd_T36 t261 x35_2).f0) + ((rd_T36 t261 x35_2).f1))) < (t254.length : Int)
                              · rw [if_pos c68] at H
                                have c68b0 : decide ((wrap64 (((rd_T36 t261 x35_2).f0) + ((rd_T36 t261 x35_2).f1))) < (t254.length : Int)) = true := decide_eq_true c68
                                clear c68
                                obtain ⟨ji69, hji69⟩ : ∃ j_ : Int, (wrap64 (((rd_T36 t261 x35_2).f0) + ((rd_T36 t261 x35_2).f1))) = j_ := ⟨_, rfl⟩
                                replace H : (if 0 ≤ (ji69) then (if (ji69) < (t257.length : Int) then (if ((rd_T29 t257 (ji69)).f0) = 0 then (lockfastlaw11_TileRows.j3 kj20 t253 t254 t257 t261 (t261.length : Int) x35_2 true ((rd_T36 t261 x35_2).f0) ((rd_T36 t261 x35_2).f1)) else ((chunk_Empty.f ((rd_T29 t257 (ji69)).f0) ((rd_T29 t257 (ji69)).f1) ((rd_T29 t257 (ji69)).f2) ((rd_T29 t257 (ji69)).f3) ((rd_T29 t257 (ji69)).f4)).bind fun t274 => (lockfastlaw11_TileRows.j3 kj20 t253 t254 t257 t261 (t261.length : Int) x35_2 t274 ((rd_T36 t261 x35_2).f0) ((rd_T36 t261 x35_2).f1)))) else (none)) else (none)) = some r := by first | (rw [hji69] at H; exact H) | (simp only [hji69] at H ⊢; exact H)
                                (try rw [hji69] at c68b0)
                                have hji69w : (IntKind.i64.wrap (((rd_T36 t261 x35_2).f0) + ((rd_T36 t261 x35_2).f1))) = ji69 := (i64_w _).trans hji69
                                by_cases c70 : 0 ≤ (ji69)
                                · rw [if_pos c70] at H
                                  have c70b0 : decide (0 ≤ (ji69)) = true := decide_eq_true c70
                                  clear c70
                                  by_cases c71 : (ji69) < (t257.length : Int)
                                  · rw [if_pos c71] at H
                                    have c71b0 : decide ((ji69) < (t257.length : Int)) = true := decide_eq_true c71
                                    clear c71
                                    by_cases c72 : ((rd_T29 t257 (ji69)).f0) = 0
                                    · rw [if_pos c72] at H
                                      have c72b0 : (((rd_T29 t257 (ji69)).f0) == 0) = true := beq_iff_eq.mpr c72
                                      have c72b1 : (((rd_T29 t257 (ji69)).f0) != 0) = false := bne_eq_false_iff_eq.mpr c72
                                      clear c72
                                      have H' := Aside0.mk H
                                      clear H
                                      have hcz73_0 : wc.cell? ⟨gb265, 0, none⟩ = some (.int .i64 ((rd_T36 t261 x35_2).f0)) := (blk_cell BK265.out 0).trans rfl
                                      have hcz73_1 : wc.cell? ⟨gb265, 1, none⟩ = some (.int .i64 ((rd_T36 t261 x35_2).f1)) := (blk_cell BK265.out 1).trans rfl
                                      have hfz73_0 := blk_frozen BK265.out 0
                                      have hfz73_1 := blk_frozen BK265.out 1
                                      obtain ⟨Ao74, co74, eo74⟩ := Kd.R_slice HO_5.out
                                      subst eo74
                                      have p272 : 0 ≤ ((ji69) : Int) := of_decide_eq_true (by first | (with_reducible assumption) | assumption)
                                      have q272 : (ji69) < (t257.length : Int) := of_decide_eq_true (by first | (with_reducible assumption) | assumption)
                                      obtain ⟨ad272, e272, hx272_0, hx272_1, hx272_2, hx272_3, hx272_4⟩ := at_T29 (Kd.R_reads' HO_5.out).2.2 (ji69) p272 q272
                                      cases e272
                                      replace p272 := eq_true p272
                                      replace q272 := eq_true q272
                                      go_wp2
                                      go_meet
                                      case rel => exact ⟨_, (true), (by first | rfl | (simp; done) | (simp [*]; done)), H', ⟨by have := HJ6.out; have := HK2.out; have := HJ20.out; first | omega | exact Nat.le_refl _⟩, ⟨by (with_reducible repeat (first | apply Kd.R_alloc | apply Kd.R_drewN | apply Kd.R_drew)); exact HO_4.out⟩, ⟨by (with_reducible repeat (first | apply Kd.R_alloc | apply Kd.R_drewN | apply Kd.R_drew)); exact HO_5.out⟩, ⟨by (with_reducible repeat (first | apply Kd.R_alloc | apply Kd.R_drewN | apply Kd.R_drew)); exact HO_33.out⟩, ⟨by (with_reducible repeat (first | refine blk_drewN ?_ _ | refine blk_drew ?_ | refine blk_alloc ?_ _)); exact BK265.out⟩, ⟨by repeat (first | (with_reducible first | exact HB.out | apply below_alloc | apply pw_below_drewN | apply below_drew1 | refine below_set ?_ GE265.out) | exact HB.out)⟩⟩
                                    · rw [if_neg c72] at H
                                      have c72b0 : (((rd_T29 t257 (ji69)).f0) == 0) = false := beq_eq_false_iff_ne.mpr c72
                                      have c72b1 : (((rd_T29 t257 (ji69)).f0) != 0) = true := bne_iff_ne.mpr c72
                                      replace H := Option.bind_eq_some_iff.mp H
                                      obtain ⟨t274, A750, H⟩ := H
                                      replace H : (lockfastlaw11_TileRows.j3 kj20 t253 t254 t257 t261 (t261.length : Int) x35_2 t274 ((rd_T36 t261 x35_2).f0) ((rd_T36 t261 x35_2).f1)) = some r := H
                                      have A75 := Aside0.mk A750
                                      clear A750
                                      have H' := Aside0.mk H
                                      clear H
                                      have hcz76_0 : wc.cell? ⟨gb265, 0, none⟩ = some (.int .i64 ((rd_T36 t261 x35_2).f0)) := (blk_cell BK265.out 0).trans rfl
                                      have hcz76_1 : wc.cell? ⟨gb265, 1, none⟩ = some (.int .i64 ((rd_T36 t261 x35_2).f1)) := (blk_cell BK265.out 1).trans rfl
                                      have hfz76_0 := blk_frozen BK265.out 0
                                      have hfz76_1 := blk_frozen BK265.out 1
                                      obtain ⟨Ao77, co77, eo77⟩ := Kd.R_slice HO_5.out
                                      subst eo77
                                      have p272 : 0 ≤ ((ji69) : Int) := of_decide_eq_true (by first | (with_reducible assumption) | assumption)
                                      have q272 : (ji69) < (t257.length : Int) := of_decide_eq_true (by first | (with_reducible assumption) | assumption)
                                      obtain ⟨ad272, e272, hx272_0, hx272_1, hx272_2, hx272_3, hx272_4⟩ := at_T29 (Kd.R_reads' HO_5.out).2.2 (ji69) p272 q272
                                      cases e272
                                      replace p272 := eq_true p272
                                      replace q272 := eq_true q272
                                      have p273 : 0 ≤ ((ji69) : Int) := of_decide_eq_true (by first | (with_reducible assumption) | assumption)
                                      have q273 : (ji69) < (t257.length : Int) := of_decide_eq_true (by first | (with_reducible assumption) | assumption)
                                      obtain ⟨ad273, e273, hx273_0, hx273_1, hx273_2, hx273_3, hx273_4⟩ := at_T29 (Kd.R_reads' HO_5.out).2.2 (ji69) p273 q273
                                      obtain rfl : ad272 = ad273 := (by injection e273)
                                      replace p273 := eq_true p273
                                      replace q273 := eq_true q273
                                      go_wp2_with (first | (go_at_call 22; (with_reducible refine (chunk_Empty.calls ((rd_T29 t257 (ji69)).f0) ((rd_T29 t257 (ji69)).f1) ((rd_T29 t257 (ji69)).f2) ((rd_T29 t257 (ji69)).f3) ((rd_T29 t257 (ji69)).f4) t274 _ A75.out).mono ?_); rintro e w78 ⟨rfl, hb⟩; have n0_ := Aside0.mk (Kd.R_below (by (with_reducible repeat (first | apply Kd.R_alloc | apply Kd.R_drewN | apply Kd.R_drew)); exact HO_4.out) hb); have n1_ := Aside0.mk (Kd.R_below (by (with_reducible repeat (first | apply Kd.R_alloc | apply Kd.R_drewN | apply Kd.R_drew)); exact HO_5.out) hb); have n2_ := Aside0.mk (Kd.R_below (by (with_reducible repeat (first | apply Kd.R_alloc | apply Kd.R_drewN | apply Kd.R_drew)); exact HO_33.out) hb); have n3_ := Aside0.mk (blk_below (g := gb265) (o := .cells #[.int .i64 ((rd_T36 t261 x35_2).f0), .int .i64 ((rd_T36 t261 x35_2).f1)] 36 (0, 0)) (by (with_reducible repeat (first | refine blk_drewN ?_ _ | refine blk_drew ?_ | refine blk_alloc ?_ _)); exact BK265.out) hb); have n4_ := Aside0.mk (below_step (by repeat (first | (with_reducible first | exact HB.out | apply below_alloc | apply pw_below_drewN | apply below_drew1 | refine below_set ?_ GE265.out) | exact HB.out)) hb); clear HO_4; clear HO_5; clear HO_33; clear BK265; clear HB; have HO_4 := n0_; have HO_5 := n1_; have HO_33 := n2_; have BK265 := n3_; have HB := n4_; clear n0_ n1_ n2_ n3_ n4_; (try clear hb); (try clear hb2); (try clear hk); (try clear hi)))
                                      go_meet
                                      case rel => exact ⟨_, (t274), (by first | rfl | (simp; done) | (simp [*]; done)), H', ⟨by have := HJ6.out; have := HK2.out; have := HJ20.out; first | omega | exact Nat.le_refl _⟩, ⟨by (with_reducible repeat (first | apply Kd.R_alloc | apply Kd.R_drewN | apply Kd.R_drew)); exact HO_4.out⟩, ⟨by (with_reducible repeat (first | apply Kd.R_alloc | apply Kd.R_drewN | apply Kd.R_drew)); exact HO_5.out⟩, ⟨by (with_reducible repeat (first | apply Kd.R_alloc | apply Kd.R_drewN | apply Kd.R_drew)); exact HO_33.out⟩, ⟨by (with_reducible repeat (first | refine blk_drewN ?_ _ | refine blk_drew ?_ | refine blk_alloc ?_ _)); exact BK265.out⟩, ⟨by repeat (first | (with_reducible first | exact HB.out | apply below_alloc | apply pw_below_drewN | apply below_drew1 | refine below_set ?_ GE265.out) | exact HB.out)⟩⟩
                                  · rw [if_neg c71] at H
                                    exact absurd H (by simp)
                                · rw [if_neg c70] at H
                                  exact absurd H (by simp)
                              · rw [if_neg c68] at H
                                have c68b0 : decide ((wrap64 (((rd_T36 t261 x35_2).f0) + ((rd_T36 t261 x35_2).f1))) < (t254.length : Int)) = false := decide_eq_false c68
                                clear c68
                                have H' := Aside0.mk H
                                clear H
                                have hcz79_0 : wc.cell? ⟨gb265, 0, none⟩ = some (.int .i64 ((rd_T36 t261 x35_2).f0)) := (blk_cell BK265.out 0).trans rfl
                                have hcz79_1 : wc.cell? ⟨gb265, 1, none⟩ = some (.int .i64 ((rd_T36 t261 x35_2).f1)) := (blk_cell BK265.out 1).trans rfl
                                have hfz79_0 := blk_frozen BK265.out 0
                                have hfz79_1 := blk_frozen BK265.out 1
                                go_wp2
                                go_meet
                                case rel => exact ⟨_, (false), (by first | rfl | (simp; done) | (simp [*]; done)), H', ⟨by have := HJ6.out; have := HK2.out; have := HJ20.out; first | omega | exact Nat.le_refl _⟩, ⟨by (with_reducible repeat (first | apply Kd.R_alloc | apply Kd.R_drewN | apply Kd.R_drew)); exact HO_4.out⟩, ⟨by (with_reducible repeat (first | apply Kd.R_alloc | apply Kd.R_drewN | apply Kd.R_drew)); exact HO_5.out⟩, ⟨by (with_reducible repeat (first | apply Kd.R_alloc | apply Kd.R_drewN | apply Kd.R_drew)); exact HO_33.out⟩, ⟨by (with_reducible repeat (first | refine blk_drewN ?_ _ | refine blk_drew ?_ | refine blk_alloc ?_ _)); exact BK265.out⟩, ⟨by repeat (first | (with_reducible first | exact HB.out | apply below_alloc | apply pw_below_drewN | apply below_drew1 | refine below_set ?_ GE265.out) | exact HB.out)⟩⟩
                          case rest =>
                            clear HC36
                            try clear c1
                            try clear c2
                            try clear p2
                            try clear q2
                            try clear hx2
                            try clear c3
                            try clear c3b0
                            try clear c3b1
                            try clear c4
                            try clear c5
                            try clear c6
                            try clear p6
                            try clear c7
                            try clear c12
                            try clear c14
                            try clear c15
                            try clear c16
                            try clear c18
                            try clear c18b0
                            try clear c19
                            try clear c19b0
                            try clear c20
                            try clear c20b0
                            try clear c21
                            try clear c24
                            try clear c24b0
                            try clear c26
                            try clear c26b0
                            try clear p26
                            try clear q26
                            try clear hx26
                            try clear c27
                            try clear c27b0
                            try clear p27
                            try clear q27
                            try clear hx27
                            try clear c29
                            try clear c29b0
                            try clear c32
                            try clear c32b0
                            try clear c35
                            try clear c37
                            try clear c37b0
                            try clear c39
                            try clear c39b0
                            try clear c40
                            try clear c40b0
                            try clear c41
                            try clear c41b0
                            try clear c41b1
                            try clear c45
                            try clear c49
                            try clear c49b0
                            try clear c51
                            try clear c51b0
                            try clear c52
                            try clear c52b0
                            try clear c53
                            try clear c53b0
                            try clear c53b1
                            try clear p64
                            try clear c68
                            try clear c68b0
                            try clear c70
                            try clear c70b0
                            try clear c71
                            try clear c71b0
                            try clear c72
                            try clear c72b0
                            try clear c72b1
                            try clear hcz23_0
                            try clear hcz23_1
                            try clear hcz25_0
                            try clear hcz25_1
                            try clear hcz28_0
                            try clear hcz28_1
                            try clear hcz30_0
                            try clear hcz30_1
                            try clear hcz31_0
                            try clear hcz31_1
                            try clear hcz33_0
                            try clear hcz33_1
                            try clear hcz34_0
                            try clear hcz34_1
                            try clear hcz42_0
                            try clear hcz42_1
                            try clear hcz46_0
                            try clear hcz46_1
                            try clear hcz54_0
                            try clear hcz54_1
                            try clear hcz57_0
                            try clear hcz57_1
                            try clear hcz59_0
                            try clear hcz59_1
                            try clear hcz62_0
                            try clear hcz62_1
                            try clear hcz64_0
                            try clear hcz64_1
                            try clear hcz67_0
                            try clear hcz67_1
                            try clear hcz73_0
                            try clear hcz73_1
                            try clear hcz76_0
                            try clear hcz76_1
                            try clear hcz79_0
                            try clear hcz79_1
                            try clear hfz23_0
                            try clear hfz23_1
                            try clear hfz25_0
                            try clear hfz25_1
                            try clear hfz28_0
                            try clear hfz28_1
                            try clear hfz30_0
                            try clear hfz30_1
                            try clear hfz31_0
                            try clear hfz31_1
                            try clear hfz33_0
                            try clear hfz33_1
                            try clear hfz34_0
                            try clear hfz34_1
                            try clear hfz42_0
                            try clear hfz42_1
                            try clear hfz46_0
                            try clear hfz46_1
                            try clear hfz54_0
                            try clear hfz54_1
                            try clear hfz57_0
                            try clear hfz57_1
                            try clear hfz59_0
                            try clear hfz59_1
                            try clear hfz62_0
                            try clear hfz62_1
                            try clear hfz64_0
                            try clear hfz64_1
                            try clear hfz67_0
                            try clear hfz67_1
                            try clear hfz73_0
                            try clear hfz73_1
                            try clear hfz76_0
                            try clear hfz76_1
                            try clear hfz79_0
                            try clear hfz79_1
                            try clear hx264_0
                            try clear hx264_1
                            try clear hx266_0
                            try clear hx266_1
                            try clear hx266_2
                            try clear hx266_3
                            try clear hx266_4
                            try clear hx267_0
                            try clear hx267_1
                            try clear hx267_2
                            try clear hx267_3
                            try clear hx267_4
                            try clear hx269_0
                            try clear hx269_1
                            try clear hx269_2
                            try clear hx269_3
                            try clear hx269_4
                            try clear hx270_0
                            try clear hx270_1
                            try clear hx270_2
                            try clear hx270_3
                            try clear hx270_4
                            try clear hx272_0
                            try clear hx272_1
                            try clear hx272_2
                            try clear hx272_3
                            try clear hx272_4
                            try clear hx273_0
                            try clear hx273_1
                            try clear hx273_2
                            try clear hx273_3
                            try clear hx273_4
                            try clear p2
                            try clear p26
                            try clear p264
                            try clear p266
                            try clear p267
                            try clear p269
                            try clear p270
                            try clear p272
                            try clear p273
                            try clear p6
                            try clear q2
                            try clear q26
                            try clear q264
                            try clear q266
                            try clear q267
                            try clear q269
                            try clear q270
                            try clear q272
                            try clear q273
                            obtain ⟨kq, x122_35, rfl, HA, HJ35, HO_4, HO_5, HO_33, BK265, HB⟩ := hcut
                            cases kq with
                            | zero => exact absurd HA.out (by simp [lockfastlaw11_TileRows.j3])
                            | succ kj35 =>
                              have H := HA.out
                              clear HA
                              simp only [lockfastlaw11_TileRows.j3] at H
                              by_cases c80 : x122_35 = true
                              · subst c80
                                have H1 : (some false) = some r := by rw [if_pos rfl] at H; exact H
                                clear H
                                have H := H1
                                clear H1
                                obtain rfl := Option.some.inj H
                                go_wp2
                                go_ret
                                exact ⟨by first | rfl | (simp [errW_none, errW_some] <;> rfl) | (simp [*, errW_none, errW_some] <;> rfl), by repeat (first | (with_reducible first | exact HB.out | apply below_alloc | apply pw_below_drewN | apply below_drew1 | refine below_set ?_ GE265.out) | exact HB.out)⟩
                              · replace c80 := Bool.eq_false_iff.mpr c80
                                subst c80
                                have H1 : (lockfastlaw11_TileRows.l1 kj35 t253 t254 t257 0 t261 (t261.length : Int) x35_2 ((rd_T36 t261 x35_2).f0) ((rd_T36 t261 x35_2).f1)) = some r := by rw [if_neg (show ¬ (false = true) by decide)] at H; exact H
                                clear H
                                have H := H1
                                clear H1
                                have H' := Aside0.mk H
                                clear H
                                go_wp2
                                go_loopg [10] kj35 (fun kq v10 w' => ∃ (x10_5 : Int), v10 = .int .i64 x10_5 ∧ Aside0 (lockfastlaw11_TileRows.l1 kq t253 t254 t257 x10_5 t261 (t261.length : Int) x35_2 ((rd_T36 t261 x35_2).f0) ((rd_T36 t261 x35_2).f1) = some r) ∧ Aside0 (kq ≤ kj35) ∧ Aside0 (Kd.R (Kd.int .u64) 27 w' w.heap.size (fun _ => True) (.slice Ao10 t254.length co10) t254) ∧ Aside0 (Kd.R k29 29 w' w.heap.size (fun _ => True) v259 t257) ∧ Aside0 (Kd.R k36 36 w' w.heap.size (fun k_ => k_ ≠ gb265) (.slice (some ad264) t261.length co17) t261) ∧ Aside0 (w'.heap[gb265]? = some (.cells #[.int .i64 ((rd_T36 t261 x35_2).f0), .int .i64 ((rd_T36 t261 x35_2).f1)] 36 (0, 0))) ∧ Aside0 (Below w.heap.size w w'))
                                case atStart => exact ⟨(0), (by first | rfl | (simp; done) | (simp [*]; done)), H', ⟨Nat.le_refl _⟩, ⟨by (with_reducible repeat (first | apply Kd.R_alloc | apply Kd.R_drewN | apply Kd.R_drew)); exact HO_4.out⟩, ⟨by (with_reducible repeat (first | apply Kd.R_alloc | apply Kd.R_drewN | apply Kd.R_drew)); exact HO_5.out⟩, ⟨by (with_reducible repeat (first | apply Kd.R_alloc | apply Kd.R_drewN | apply Kd.R_drew)); exact HO_33.out⟩, ⟨by (with_reducible repeat (first | refine blk_drewN ?_ _ | refine blk_drew ?_ | refine blk_alloc ?_ _)); exact BK265.out⟩, ⟨by repeat (first | (with_reducible first | exact HB.out | apply below_alloc | apply pw_below_drewN | apply below_drew1 | refine below_set ?_ GE265.out) | exact HB.out)⟩⟩
                                case round =>
                                  clear H'
                                  try clear c1
                                  try clear c2
                                  try clear p2
                                  try clear q2
                                  try clear hx2
                                  try clear c3
                                  try clear c3b0
                                  try clear c3b1
                                  try clear c4
                                  try clear c5
                                  try clear c6
                                  try clear p6
                                  try clear c7
                                  try clear c8
                                  try clear c12
                                  try clear c14
                                  try clear c15
                                  try clear c16
                                  try clear c18
                                  try clear c18b0
                                  try clear c19
                                  try clear c19b0
                                  try clear c20
                                  try clear c20b0
                                  try clear c21
                                  try clear c24
                                  try clear c24b0
                                  try clear c26
                                  try clear c26b0
                                  try clear p26
                                  try clear q26
                                  try clear hx26
                                  try clear c27
                                  try clear c27b0
                                  try clear p27
                                  try clear q27
                                  try clear hx27
                                  try clear c29
                                  try clear c29b0
                                  try clear c32
                                  try clear c32b0
                                  try clear c35
                                  try clear c37
                                  try clear c37b0
                                  try clear c39
                                  try clear c39b0
                                  try clear c40
                                  try clear c40b0
                                  try clear c41
                                  try clear c41b0
                                  try clear c41b1
                                  try clear c45
                                  try clear c49
                                  try clear c49b0
                                  try clear c51
                                  try clear c51b0
                                  try clear c52
                                  try clear c52b0
                                  try clear c53
                                  try clear c53b0
                                  try clear c53b1
                                  try clear p64
                                  try clear c68
                                  try clear c68b0
                                  try clear c70
                                  try clear c70b0
                                  try clear c71
                                  try clear c71b0
                                  try clear c72
                                  try clear c72b0
                                  try clear c72b1
                                  try clear c80
                                  try clear hcz23_0
                                  try clear hcz23_1
                                  try clear hcz25_0
                                  try clear hcz25_1
                                  try clear hcz28_0
                                  try clear hcz28_1
                                  try clear hcz30_0
                                  try clear hcz30_1
                                  try clear hcz31_0
                                  try clear hcz31_1
                                  try clear hcz33_0
                                  try clear hcz33_1
                                  try clear hcz34_0
                                  try clear hcz34_1
                                  try clear hcz42_0
                                  try clear hcz42_1
                                  try clear hcz46_0
                                  try clear hcz46_1
                                  try clear hcz54_0
                                  try clear hcz54_1
                                  try clear hcz57_0
                                  try clear hcz57_1
                                  try clear hcz59_0
                                  try clear hcz59_1
                                  try clear hcz62_0
                                  try clear hcz62_1
                                  try clear hcz64_0
                                  try clear hcz64_1
                                  try clear hcz67_0
                                  try clear hcz67_1
                                  try clear hcz73_0
                                  try clear hcz73_1
                                  try clear hcz76_0
                                  try clear hcz76_1
                                  try clear hcz79_0
                                  try clear hcz79_1
                                  try clear hfz23_0
                                  try clear hfz23_1
                                  try clear hfz25_0
                                  try clear hfz25_1
                                  try clear hfz28_0
                                  try clear hfz28_1
                                  try clear hfz30_0
                                  try clear hfz30_1
                                  try clear hfz31_0
                                  try clear hfz31_1
                                  try clear hfz33_0
                                  try clear hfz33_1
                                  try clear hfz34_0
                                  try clear hfz34_1
                                  try clear hfz42_0
                                  try clear hfz42_1
                                  try clear hfz46_0
                                  try clear hfz46_1
                                  try clear hfz54_0
                                  try clear hfz54_1
                                  try clear hfz57_0
                                  try clear hfz57_1
                                  try clear hfz59_0
                                  try clear hfz59_1
                                  try clear hfz62_0
                                  try clear hfz62_1
                                  try clear hfz64_0
                                  try clear hfz64_1
                                  try clear hfz67_0
                                  try clear hfz67_1
                                  try clear hfz73_0
                                  try clear hfz73_1
                                  try clear hfz76_0
                                  try clear hfz76_1
                                  try clear hfz79_0
                                  try clear hfz79_1
                                  try clear hx264_0
                                  try clear hx264_1
                                  try clear hx266_0
                                  try clear hx266_1
                                  try clear hx266_2
                                  try clear hx266_3
                                  try clear hx266_4
                                  try clear hx267_0
                                  try clear hx267_1
                                  try clear hx267_2
                                  try clear hx267_3
                                  try clear hx267_4
                                  try clear hx269_0
                                  try clear hx269_1
                                  try clear hx269_2
                                  try clear hx269_3
                                  try clear hx269_4
                                  try clear hx270_0
                                  try clear hx270_1
                                  try clear hx270_2
                                  try clear hx270_3
                                  try clear hx270_4
                                  try clear hx272_0
                                  try clear hx272_1
                                  try clear hx272_2
                                  try clear hx272_3
                                  try clear hx272_4
                                  try clear hx273_0
                                  try clear hx273_1
                                  try clear hx273_2
                                  try clear hx273_3
                                  try clear hx273_4
                                  try clear p2
                                  try clear p26
                                  try clear p264
                                  try clear p266
                                  try clear p267
                                  try clear p269
                                  try clear p27
                                  try clear p270
                                  try clear p272
                                  try clear p273
                                  try clear p6
                                  try clear p64
                                  try clear q2
                                  try clear q26
                                  try clear q264
                                  try clear q266
                                  try clear q267
                                  try clear q269
                                  try clear q27
                                  try clear q270
                                  try clear q272
                                  try clear q273
                                  obtain ⟨x10_5, rfl, HA, HK5, HO_4, HO_5, HO_33, BK265, HB⟩ := hrel
                                  cases gk with
                                  | zero => exact absurd HA.out (by simp [lockfastlaw11_TileRows.l1])
                                  | succ k5 =>
                                    have H := HA.out
                                    clear HA
                                    simp only [lockfastlaw11_TileRows.l1] at H
                                    by_cases c81 : x10_5 < ((rd_T36 t261 x35_2).f1)
                                    · rw [if_pos c81] at H
                                      have c81b0 : decide (x10_5 < ((rd_T36 t261 x35_2).f1)) = true := decide_eq_true c81
                                      clear c81
                                      obtain ⟨ji82, hji82⟩ : ∃ j_ : Int, (wrap64 (((rd_T36 t261 x35_2).f0) + x10_5)) = j_ := ⟨_, rfl⟩
                                      replace H : (if 0 ≤ (ji82) then (if (ji82) < (t257.length : Int) then (if ((rd_T29 t257 (ji82)).f0) = 0 then (lockfastlaw11_TileRows.l1 k5 t253 t254 t257 (wrap64 (x10_5 + 1)) t261 (t261.length : Int) x35_2 ((rd_T36 t261 x35_2).f0) ((rd_T36 t261 x35_2).f1)) else ((chunk_Empty.f ((rd_T29 t257 (ji82)).f0) ((rd_T29 t257 (ji82)).f1) ((rd_T29 t257 (ji82)).f2) ((rd_T29 t257 (ji82)).f3) ((rd_T29 t257 (ji82)).f4)).bind fun t277 => (if t277 = true then (lockfastlaw11_TileRows.l1 k5 t253 t254 t257 (wrap64 (x10_5 + 1)) t261 (t261.length : Int) x35_2 ((rd_T36 t261 x35_2).f0) ((rd_T36 t261 x35_2).f1)) else (some false)))) else (none)) else (none)) = some r := by first | (rw [hji82] at H; exact H) | (simp only [hji82] at H ⊢; exact H)
                                      have hji82w : (IntKind.i64.wrap (((rd_T36 t261 x35_2).f0) + x10_5)) = ji82 := (i64_w _).trans hji82
                                      by_cases c83 : 0 ≤ (ji82)
                                      · rw [if_pos c83] at H
                                        have c83b0 : decide (0 ≤ (ji82)) = true := decide_eq_true c83
                                        clear c83
                                        by_cases c84 : (ji82) < (t257.length : Int)
                                        · rw [if_pos c84] at H
                                          have c84b0 : decide ((ji82) < (t257.length : Int)) = true := decide_eq_true c84
                                          clear c84
                                          by_cases c85 : ((rd_T29 t257 (ji82)).f0) = 0
                                          · rw [if_pos c85] at H
                                            have c85b0 : (((rd_T29 t257 (ji82)).f0) == 0) = true := beq_iff_eq.mpr c85
                                            have c85b1 : (((rd_T29 t257 (ji82)).f0) != 0) = false := bne_eq_false_iff_eq.mpr c85
                                            clear c85
                                            have H' := Aside0.mk H
                                            clear H
                                            have hcz86_0 : wr.cell? ⟨gb265, 0, none⟩ = some (.int .i64 ((rd_T36 t261 x35_2).f0)) := (blk_cell BK265.out 0).trans rfl
                                            have hcz86_1 : wr.cell? ⟨gb265, 1, none⟩ = some (.int .i64 ((rd_T36 t261 x35_2).f1)) := (blk_cell BK265.out 1).trans rfl
                                            have hfz86_0 := blk_frozen BK265.out 0
                                            have hfz86_1 := blk_frozen BK265.out 1
                                            obtain ⟨Ao87, co87, eo87⟩ := Kd.R_slice HO_5.out
                                            subst eo87
                                            have p275 : 0 ≤ ((ji82) : Int) := of_decide_eq_true (by first | (with_reducible assumption) | assumption)
                                            have q275 : (ji82) < (t257.length : Int) := of_decide_eq_true (by first | (with_reducible assumption) | assumption)
                                            obtain ⟨ad275, e275, hx275_0, hx275_1, hx275_2, hx275_3, hx275_4⟩ := at_T29 (Kd.R_reads' HO_5.out).2.2 (ji82) p275 q275
                                            cases e275
                                            replace p275 := eq_true p275
                                            replace q275 := eq_true q275
                                            go_wp2
                                            go_roundg k5
                                            case measure => have := HJ6.out; have := HK2.out; have := HJ20.out; have := HJ35.out; have := HK5.out; omega
                                            case rel => exact ⟨(wrap64 (x10_5 + 1)), (by first | rfl | (simp; done) | (simp [*]; done)), H', ⟨by have := HJ6.out; have := HK2.out; have := HJ20.out; have := HJ35.out; have := HK5.out; omega⟩, ⟨by (with_reducible repeat (first | apply Kd.R_alloc | apply Kd.R_drewN | apply Kd.R_drew)); exact HO_4.out⟩, ⟨by (with_reducible repeat (first | apply Kd.R_alloc | apply Kd.R_drewN | apply Kd.R_drew)); exact HO_5.out⟩, ⟨by (with_reducible repeat (first | apply Kd.R_alloc | apply Kd.R_drewN | apply Kd.R_drew)); exact HO_33.out⟩, ⟨by (with_reducible repeat (first | refine blk_drewN ?_ _ | refine blk_drew ?_ | refine blk_alloc ?_ _)); exact BK265.out⟩, ⟨by repeat (first | (with_reducible first | exact HB.out | apply below_alloc | apply pw_below_drewN | apply below_drew1 | refine below_set ?_ GE265.out) | exact HB.out)⟩⟩
                                          · rw [if_neg c85] at H
                                            have c85b0 : (((rd_T29 t257 (ji82)).f0) == 0) = false := beq_eq_false_iff_ne.mpr c85
                                            have c85b1 : (((rd_T29 t257 (ji82)).f0) != 0) = true := bne_iff_ne.mpr c85
                                            replace H := Option.bind_eq_some_iff.mp H
                                            obtain ⟨t277, A880, H⟩ := H
                                            replace H : (if t277 = true then (lockfastlaw11_TileRows.l1 k5 t253 t254 t257 (wrap64 (x10_5 + 1)) t261 (t261.length : Int) x35_2 ((rd_T36 t261 x35_2).f0) ((rd_T36 t261 x35_2).f1)) else (some false)) = some r := H
                                            have A88 := Aside0.mk A880
                                            clear A880
                                            by_cases c89 : t277 = true
                                            · subst c89
                                              have H1 : (lockfastlaw11_TileRows.l1 k5 t253 t254 t257 (wrap64 (x10_5 + 1)) t261 (t261.length : Int) x35_2 ((rd_T36 t261 x35_2).f0) ((rd_T36 t261 x35_2).f1)) = some r := by rw [if_pos rfl] at H; exact H
                                              clear H
                                              have H := H1
                                              clear H1
                                              have H' := Aside0.mk H
                                              clear H
                                              have hcz90_0 : wr.cell? ⟨gb265, 0, none⟩ = some (.int .i64 ((rd_T36 t261 x35_2).f0)) := (blk_cell BK265.out 0).trans rfl
                                              have hcz90_1 : wr.cell? ⟨gb265, 1, none⟩ = some (.int .i64 ((rd_T36 t261 x35_2).f1)) := (blk_cell BK265.out 1).trans rfl
                                              have hfz90_0 := blk_frozen BK265.out 0
                                              have hfz90_1 := blk_frozen BK265.out 1
                                              obtain ⟨Ao91, co91, eo91⟩ := Kd.R_slice HO_5.out
                                              subst eo91
                                              have p275 : 0 ≤ ((ji82) : Int) := of_decide_eq_true (by first | (with_reducible assumption) | assumption)
                                              have q275 : (ji82) < (t257.length : Int) := of_decide_eq_true (by first | (with_reducible assumption) | assumption)
                                              obtain ⟨ad275, e275, hx275_0, hx275_1, hx275_2, hx275_3, hx275_4⟩ := at_T29 (Kd.R_reads' HO_5.out).2.2 (ji82) p275 q275
                                              cases e275
                                              replace p275 := eq_true p275
                                              replace q275 := eq_true q275
                                              have p276 : 0 ≤ ((ji82) : Int) := of_decide_eq_true (by first | (with_reducible assumption) | assumption)
                                              have q276 : (ji82) < (t257.length : Int) := of_decide_eq_true (by first | (with_reducible assumption) | assumption)
                                              obtain ⟨ad276, e276, hx276_0, hx276_1, hx276_2, hx276_3, hx276_4⟩ := at_T29 (Kd.R_reads' HO_5.out).2.2 (ji82) p276 q276
                                              obtain rfl : ad275 = ad276 := (by injection e276)
                                              replace p276 := eq_true p276
                                              replace q276 := eq_true q276
                                              go_wp2_with (first | (go_at_call 22; (with_reducible refine (chunk_Empty.calls ((rd_T29 t257 (ji82)).f0) ((rd_T29 t257 (ji82)).f1) ((rd_T29 t257 (ji82)).f2) ((rd_T29 t257 (ji82)).f3) ((rd_T29 t257 (ji82)).f4) true _ A88.out).mono ?_); rintro e w92 ⟨rfl, hb⟩; have n0_ := Aside0.mk (Kd.R_below (by (with_reducible repeat (first | apply Kd.R_alloc | apply Kd.R_drewN | apply Kd.R_drew)); exact HO_4.out) hb); have n1_ := Aside0.mk (Kd.R_below (by (with_reducible repeat (first | apply Kd.R_alloc | apply Kd.R_drewN | apply Kd.R_drew)); exact HO_5.out) hb); have n2_ := Aside0.mk (Kd.R_below (by (with_reducible repeat (first | apply Kd.R_alloc | apply Kd.R_drewN | apply Kd.R_drew)); exact HO_33.out) hb); have n3_ := Aside0.mk (blk_below (g := gb265) (o := .cells #[.int .i64 ((rd_T36 t261 x35_2).f0), .int .i64 ((rd_T36 t261 x35_2).f1)] 36 (0, 0)) (by (with_reducible repeat (first | refine blk_drewN ?_ _ | refine blk_drew ?_ | refine blk_alloc ?_ _)); exact BK265.out) hb); have n4_ := Aside0.mk (below_step (by repeat (first | (with_reducible first | exact HB.out | apply below_alloc | apply pw_below_drewN | apply below_drew1 | refine below_set ?_ GE265.out) | exact HB.out)) hb); clear HO_4; clear HO_5; clear HO_33; clear BK265; clear HB; have HO_4 := n0_; have HO_5 := n1_; have HO_33 := n2_; have BK265 := n3_; have HB := n4_; clear n0_ n1_ n2_ n3_ n4_; (try clear hb); (try clear hb2); (try clear hk); (try clear hi)))
                                              go_roundg k5
                                              case measure => have := HJ6.out; have := HK2.out; have := HJ20.out; have := HJ35.out; have := HK5.out; omega
                                              case rel => exact ⟨(wrap64 (x10_5 + 1)), (by first | rfl | (simp; done) | (simp [*]; done)), H', ⟨by have := HJ6.out; have := HK2.out; have := HJ20.out; have := HJ35.out; have := HK5.out; omega⟩, ⟨by (with_reducible repeat (first | apply Kd.R_alloc | apply Kd.R_drewN | apply Kd.R_drew)); exact HO_4.out⟩, ⟨by (with_reducible repeat (first | apply Kd.R_alloc | apply Kd.R_drewN | apply Kd.R_drew)); exact HO_5.out⟩, ⟨by (with_reducible repeat (first | apply Kd.R_alloc | apply Kd.R_drewN | apply Kd.R_drew)); exact HO_33.out⟩, ⟨by (with_reducible repeat (first | refine blk_drewN ?_ _ | refine blk_drew ?_ | refine blk_alloc ?_ _)); exact BK265.out⟩, ⟨by repeat (first | (with_reducible first | exact HB.out | apply below_alloc | apply pw_below_drewN | apply below_drew1 | refine below_set ?_ GE265.out) | exact HB.out)⟩⟩
                                            · replace c89 := Bool.eq_false_iff.mpr c89
                                              subst c89
                                              have H1 : (some false) = some r := by rw [if_neg (show ¬ (false = true) by decide)] at H; exact H
                                              clear H
                                              have H := H1
                                              clear H1
                                              obtain rfl := Option.some.inj H
                                              have hcz93_0 : wr.cell? ⟨gb265, 0, none⟩ = some (.int .i64 ((rd_T36 t261 x35_2).f0)) := (blk_cell BK265.out 0).trans rfl
                                              have hcz93_1 : wr.cell? ⟨gb265, 1, none⟩ = some (.int .i64 ((rd_T36 t261 x35_2).f1)) := (blk_cell BK265.out 1).trans rfl
                                              have hfz93_0 := blk_frozen BK265.out 0
                                              have hfz93_1 := blk_frozen BK265.out 1
                                              obtain ⟨Ao94, co94, eo94⟩ := Kd.R_slice HO_5.out
                                              subst eo94
                                              have p275 : 0 ≤ ((ji82) : Int) := of_decide_eq_true (by first | (with_reducible assumption) | assumption)
                                              have q275 : (ji82) < (t257.length : Int) := of_decide_eq_true (by first | (with_reducible assumption) | assumption)
                                              obtain ⟨ad275, e275, hx275_0, hx275_1, hx275_2, hx275_3, hx275_4⟩ := at_T29 (Kd.R_reads' HO_5.out).2.2 (ji82) p275 q275
                                              cases e275
                                              replace p275 := eq_true p275
                                              replace q275 := eq_true q275
                                              have p276 : 0 ≤ ((ji82) : Int) := of_decide_eq_true (by first | (with_reducible assumption) | assumption)
                                              have q276 : (ji82) < (t257.length : Int) := of_decide_eq_true (by first | (with_reducible assumption) | assumption)
                                              obtain ⟨ad276, e276, hx276_0, hx276_1, hx276_2, hx276_3, hx276_4⟩ := at_T29 (Kd.R_reads' HO_5.out).2.2 (ji82) p276 q276
                                              obtain rfl : ad275 = ad276 := (by injection e276)
                                              replace p276 := eq_true p276
                                              replace q276 := eq_true q276
                                              go_wp2_with (first | (go_at_call 22; (with_reducible refine (chunk_Empty.calls ((rd_T29 t257 (ji82)).f0) ((rd_T29 t257 (ji82)).f1) ((rd_T29 t257 (ji82)).f2) ((rd_T29 t257 (ji82)).f3) ((rd_T29 t257 (ji82)).f4) false _ A88.out).mono ?_); rintro e w95 ⟨rfl, hb⟩; have n0_ := Aside0.mk (Kd.R_below (by (with_reducible repeat (first | apply Kd.R_alloc | apply Kd.R_drewN | apply Kd.R_drew)); exact HO_4.out) hb); have n1_ := Aside0.mk (Kd.R_below (by (with_reducible repeat (first | apply Kd.R_alloc | apply Kd.R_drewN | apply Kd.R_drew)); exact HO_5.out) hb); have n2_ := Aside0.mk (Kd.R_below (by (with_reducible repeat (first | apply Kd.R_alloc | apply Kd.R_drewN | apply Kd.R_drew)); exact HO_33.out) hb); have n3_ := Aside0.mk (blk_below (g := gb265) (o := .cells #[.int .i64 ((rd_T36 t261 x35_2).f0), .int .i64 ((rd_T36 t261 x35_2).f1)] 36 (0, 0)) (by (with_reducible repeat (first | refine blk_drewN ?_ _ | refine blk_drew ?_ | refine blk_alloc ?_ _)); exact BK265.out) hb); have n4_ := Aside0.mk (below_step (by repeat (first | (with_reducible first | exact HB.out | apply below_alloc | apply pw_below_drewN | apply below_drew1 | refine below_set ?_ GE265.out) | exact HB.out)) hb); clear HO_4; clear HO_5; clear HO_33; clear BK265; clear HB; have HO_4 := n0_; have HO_5 := n1_; have HO_33 := n2_; have BK265 := n3_; have HB := n4_; clear n0_ n1_ n2_ n3_ n4_; (try clear hb); (try clear hb2); (try clear hk); (try clear hi)))
                                              go_ret
                                              exact ⟨by first | rfl | (simp [errW_none, errW_some] <;> rfl) | (simp only [← hji82]; first | rfl | (simp [errW_none, errW_some] <;> rfl)) | (simp [*, errW_none, errW_some] <;> rfl), by repeat (first | (with_reducible first | exact HB.out | apply below_alloc | apply pw_below_drewN | apply below_drew1 | refine below_set ?_ GE265.out) | exact HB.out)⟩
                                        · rw [if_neg c84] at H
                                          exact absurd H (by simp)
                                      · rw [if_neg c83] at H
                                        exact absurd H (by simp)
                                    · rw [if_neg c81] at H
                                      have c81b0 : decide (x10_5 < ((rd_T36 t261 x35_2).f1)) = false := decide_eq_false c81
                                      clear c81
                                      have H' := Aside0.mk H
                                      clear H
                                      have hcz96_0 : wr.cell? ⟨gb265, 0, none⟩ = some (.int .i64 ((rd_T36 t261 x35_2).f0)) := (blk_cell BK265.out 0).trans rfl
                                      have hcz96_1 : wr.cell? ⟨gb265, 1, none⟩ = some (.int .i64 ((rd_T36 t261 x35_2).f1)) := (blk_cell BK265.out 1).trans rfl
                                      have hfz96_0 := blk_frozen BK265.out 0
                                      have hfz96_1 := blk_frozen BK265.out 1
                                      go_wp2
                                      go_roundg k5
                                      case measure => have := HJ6.out; have := HK2.out; have := HJ20.out; have := HJ35.out; have := HK5.out; omega
                                      case rel => exact ⟨(wrap64 ((wrap64 (((rd_T36 t261 x35_2).f0) + ((rd_T36 t261 x35_2).f1))) - 1)), (wrap64 (x35_2 + 1)), (by first | rfl | (simp; done) | (simp [*]; done)), (by first | rfl | (simp; done) | (simp [*]; done)), H', ⟨by have := HJ6.out; have := HK2.out; have := HJ20.out; have := HJ35.out; have := HK5.out; omega⟩, ⟨by (with_reducible repeat (first | apply Kd.R_alloc | apply Kd.R_drewN | apply Kd.R_drew)); exact HO_4.out⟩, ⟨by (with_reducible repeat (first | apply Kd.R_alloc | apply Kd.R_drewN | apply Kd.R_drew)); exact HO_5.out⟩, ⟨by (with_reducible repeat (first | apply Kd.R_alloc | apply Kd.R_drewN | apply Kd.R_drew)); exact Kd.R_mono HO_33.out (fun _ hk => trivial)⟩, ⟨by repeat (first | (with_reducible first | exact HB.out | apply below_alloc | apply pw_below_drewN | apply below_drew1 | refine below_set ?_ GE265.out) | exact HB.out)⟩⟩
                  · rw [if_neg c20] at H
                    exact absurd H (by simp)
                · rw [if_neg c19] at H
                  exact absurd H (by simp)
              · rw [if_neg c18] at H
                have c18b0 : decide (x35_2 < (t261.length : Int)) = false := decide_eq_false c18
                clear c18
                obtain rfl := Option.some.inj H
                go_wp2
                go_ret
                exact ⟨by first | rfl | (simp [errW_none, errW_some] <;> rfl) | (simp [*, errW_none, errW_some] <;> rfl), by repeat (first | (with_reducible first | exact HB.out | apply below_alloc | apply pw_below_drewN | apply below_drew1) | exact HB.out)⟩


end Go.Proofs.YtflbmccjfnkflaaDoor.Q
