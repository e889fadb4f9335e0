-- Written by lfprint.py of this session's own, by way of the kit's print.py; with hand-made contracts.
import Derived.Test.YtflbmccjfnkflaaDoorQx0
import Derived.Test.YtflbmccjfnkflaaDoorQx3
import Derived.Test.YtflbmccjfnkflaaDoorQx5
import Derived.Test.YtflbmccjfnkflaaDoorQx10
import Derived.Test.YtflbmccjfnkflaaDoorQx15
import Derived.Test.YtflbmccjfnkflaaDoorQx16
import Derived.Test.YtflbmccjfnkflaaDoorQx20
import Derived.Test.YtflbmccjfnkflaaDoorQx22
namespace Go.Proofs.YtflbmccjfnkflaaDoor.Q
open Go.RowKit Go.Proofs.YtflbmccjfnkflaaDoorW.PrintWords Go.Proofs.YtflbmccjfnkflaaDoorW.PrintLast Go.Proofs.YtflbmccjfnkflaaDoorW.PrintMore
attribute [local go_sem] max2_int min2_int max_two min_two max_three min_three max_four min_four   -- for this text's walks alone
set_option linter.unusedVariables false
set_option linter.unusedSimpArgs false

attribute [local go_sem high] eqA42
/-! ### lockfastlaw11_TileOne: function 6 -/
def lockfastlaw11_TileOne.l0 : Nat → Bool → Int → Int → List (S42) → List (S42) → Int → Int → Int → Int → Int → Int → Int → Option (Bool)
  | 0, _, _, _, _, _, _, _, _, _, _, _, _ => none
  | k + 1, x7, x9, x12, x15, x16, x17, x18, x337000, x337001, x337002, x337003, x337004 => if x18 < (x15.length : Int) then (if 0 ≤ x18 then ((lockfastref09_Block.f x337001).bind fun t363 => (if (((rd_T42 x15 x18).f0) == x9 && (((rd_T42 x15 x18).f1) == x12 && (((rd_T42 x15 x18).f2) == t363))) = true then (lockfastlaw11_TileOne.l0 k x7 x9 x12 x15 x16 (wrap64 (x17 + 1)) (wrap64 (x18 + 1)) x337000 x337001 x337002 x337003 x337004) else (if (wrap64 (x18 - x17)) ≥ (x16.length : Int) then (some false) else (if 0 ≤ (wrap64 (x18 - x17)) then (if (wrap64 (x18 - x17)) < (x16.length : Int) then (if (!(((rd_T42 x16 (wrap64 (x18 - x17))).f0) == ((rd_T42 x15 x18).f0)) || (!(((rd_T42 x16 (wrap64 (x18 - x17))).f1) == ((rd_T42 x15 x18).f1)) || (!(((rd_T42 x16 (wrap64 (x18 - x17))).f2) == ((rd_T42 x15 x18).f2))))) = true then (some false) else (lockfastlaw11_TileOne.l0 k x7 x9 x12 x15 x16 x17 (wrap64 (x18 + 1)) x337000 x337001 x337002 x337003 x337004)) else (none)) else (none))))) else (none)) else (if x7 = true then (some (x17 == 1)) else (some false))
def lockfastlaw11_TileOne.f (k : Nat) (l0 : List Int) (a1 : Int) (a2 : Int) : Option (Bool) := (lockfastlaw11_awake.f k).bind fun t325 => (if (l0.length : Int) > 60 then (some t325) else ((lockfastref11_Made.f k l0 40).bind fun t326 => (if (t326.length : Int) = 0 then (some t325) else (if 0 ≤ (Int.tmod (wrap64 (a1)) (t326.length : Int)) then (if (Int.tmod (wrap64 (a1)) (t326.length : Int)) < (t326.length : Int) then ((chunk_Decode.f (rd t326 (Int.tmod (wrap64 (a1)) (t326.length : Int)))).bind fun bt330 => (if bt330.2.2.2.2.2 = true then (if bt330.1 = 1 then ((lockfastref09_Many.f k bt330.2.1).bind fun t337 => (if t337 = 0 then (none) else ((some (([] : List Int) : List Int)).bind fun y338 => (if y338.length + t326.length < 17592186044416 then ((some (y338 ++ t326 : List Int)).bind fun y341 => ((chunk_Bit.f (Int.tmod (wrap64 (a2)) t337)).bind fun t345 => (if (Int.tmod (wrap64 (a1)) (t326.length : Int)) < (y341.length : Int) then ((some (([] : List Int) : List Int)).bind fun y347 => (if y347.length + t326.length < 17592186044416 then ((some (y347 ++ t326 : List Int)).bind fun y350 => ((chunk_Bit.f (Int.tmod (wrap64 (a2)) t337)).bind fun t354 => (if (Int.tmod (wrap64 (a1)) (t326.length : Int)) < (y350.length : Int) then ((tile_Blocks.f k (y341.set ((Int.tmod (wrap64 (a1)) (t326.length : Int)) : Int).toNat (Go.bits .or .u64 (rd t326 (Int.tmod (wrap64 (a1)) (t326.length : Int))) t345))).bind fun t356 => ((tile_Blocks.f k (y350.set ((Int.tmod (wrap64 (a1)) (t326.length : Int)) : Int).toNat (Go.bits .andNot .u64 (rd t326 (Int.tmod (wrap64 (a1)) (t326.length : Int))) t354))).bind fun t359 => (if (t356.length : Int) = (wrap64 ((t359.length : Int) + 1)) then (lockfastlaw11_TileOne.l0 k t325 (Int.tmod (wrap64 (a1)) (t326.length : Int)) (Int.tmod (wrap64 (a2)) t337) t356 t359 0 0 bt330.1 bt330.2.1 bt330.2.2.1 bt330.2.2.2.1 bt330.2.2.2.2.1) else (some false)))) else (none)))) else (none))) else (none)))) else (none))))) else (some t325)) else (some false))) else (none)) else (none)))))
theorem lockfastlaw11_TileOne.mono_l : ∀ k, (∀ y0 y1 y2 y3 y4 y5 y6 y7 y8 y9 y10 y11, LeO (lockfastlaw11_TileOne.l0 k y0 y1 y2 y3 y4 y5 y6 y7 y8 y9 y10 y11) (lockfastlaw11_TileOne.l0 (k + 1) y0 y1 y2 y3 y4 y5 y6 y7 y8 y9 y10 y11))
  | 0 => fun _ _ _ _ _ _ _ _ _ _ _ _ r h => by simp [lockfastlaw11_TileOne.l0] at h
  | k + 1 => by
    have ih0 := lockfastlaw11_TileOne.mono_l k
    · intro y0 y1 y2 y3 y4 y5 y6 y7 y8 y9 y10 y11
      unfold lockfastlaw11_TileOne.l0
      repeat' first
      | (with_reducible exact ih0 _ _ _ _ _ _ _ _ _ _ _ _)
      | (with_reducible exact lockfastlaw11_awake.mono _)
      | (with_reducible exact lockfastref09_Many.mono _ _)
      | (with_reducible exact lockfastref11_Made.mono _ _ _)
      | (with_reducible exact tile_Blocks.mono _ _)
      | (with_reducible exact LeO.refl _)
      | (with_reducible exact LeO.none _)
      | (with_reducible refine LeO.ite ?_ ?_)
      | (with_reducible refine LeO.bind ?_ (fun _ => ?_))
      | exact ih0 _ _ _ _ _ _ _ _ _ _ _ _
      | exact lockfastlaw11_awake.mono _
      | exact lockfastref09_Many.mono _ _
      | exact lockfastref11_Made.mono _ _ _
      | exact tile_Blocks.mono _ _
      | exact LeO.none _
      | refine LeO.ite ?_ ?_
      | refine LeO.bind ?_ (fun _ => ?_)
theorem lockfastlaw11_TileOne.mono : ∀ a0 a1 a2 k, LeO (lockfastlaw11_TileOne.f k a0 a1 a2) (lockfastlaw11_TileOne.f (k + 1) a0 a1 a2) := by
  intro a0 a1 a2 k
  have ih0 := lockfastlaw11_TileOne.mono_l k
  unfold lockfastlaw11_TileOne.f
  repeat' first
      | (with_reducible exact ih0 _ _ _ _ _ _ _ _ _ _ _ _)
      | (with_reducible exact lockfastlaw11_awake.mono _)
      | (with_reducible exact lockfastref09_Many.mono _ _)
      | (with_reducible exact lockfastref11_Made.mono _ _ _)
      | (with_reducible exact tile_Blocks.mono _ _)
      | (with_reducible exact LeO.refl _)
      | (with_reducible exact LeO.none _)
      | (with_reducible refine LeO.ite ?_ ?_)
      | (with_reducible refine LeO.bind ?_ (fun _ => ?_))
      | exact ih0 _ _ _ _ _ _ _ _ _ _ _ _
      | exact lockfastlaw11_awake.mono _
      | exact lockfastref09_Many.mono _ _
      | exact lockfastref11_Made.mono _ _ _
      | exact tile_Blocks.mono _ _
      | exact LeO.none _
      | refine LeO.ite ?_ ?_
      | refine LeO.bind ?_ (fun _ => ?_)
def lockfastlaw11_TileOne.T15 : Bool × List (List Nat × List Nat) := (true, [([], []), ([], []), ([], []), ([], []), ([2, 3], [2, 3]), ([4], [4]), ([], []), ([6], [6]), ([5, 7], [5, 7]), ([0, 1, 0, 1, 2, 3, 4, 5, 6, 7, 8], [0, 1]), ([9, 8, 7, 0, 1, 2, 3, 4, 5, 6, 7, 8], [8, 9])])
def lockfastlaw11_TileOne.B15 : List Nat := [0, 0, 0, 0, 12, 28, 0, 64, 252, 511, 1023]
theorem lockfastlaw11_TileOne.tab15 : rtab .any (opsOf Tryd.f6 15) = lockfastlaw11_TileOne.T15 := by kernel_rfl
theorem lockfastlaw11_TileOne.bits15 : waitsOk lockfastlaw11_TileOne.T15.2 lockfastlaw11_TileOne.B15 = true := by kernel_rfl
def lockfastlaw11_TileOne.T17 : Bool × List (List Nat × List Nat) := (true, [([], []), ([], []), ([], []), ([], []), ([2, 3], [2, 3]), ([4], [4]), ([], []), ([6], [6]), ([5, 7], [5, 7]), ([0, 1, 0, 1, 2, 3, 4, 5, 6, 7, 8], [0, 1]), ([9, 8, 7, 0, 1, 2, 3, 4, 5, 6, 7, 8], [8, 9])])
def lockfastlaw11_TileOne.B17 : List Nat := [0, 0, 0, 0, 12, 28, 0, 64, 252, 511, 1023]
theorem lockfastlaw11_TileOne.tab17 : rtab .any (opsOf Tryd.f6 17) = lockfastlaw11_TileOne.T17 := by kernel_rfl
theorem lockfastlaw11_TileOne.bits17 : waitsOk lockfastlaw11_TileOne.T17.2 lockfastlaw11_TileOne.B17 = true := by kernel_rfl
def lockfastlaw11_TileOne.T26 : Bool × List (List Nat × List Nat) := (true, [([], []), ([], []), ([0, 1], [0, 1]), ([2], [2]), ([], []), ([], []), ([], []), ([6], [6]), ([7], [7]), ([4, 5, 8], [4, 5, 8]), ([3, 9], [3, 9])])
def lockfastlaw11_TileOne.B26 : List Nat := [0, 0, 3, 7, 0, 0, 0, 64, 192, 496, 1023]
theorem lockfastlaw11_TileOne.tab26 : rtab .any (opsOf Tryd.f6 26) = lockfastlaw11_TileOne.T26 := by kernel_rfl
theorem lockfastlaw11_TileOne.bits26 : waitsOk lockfastlaw11_TileOne.T26.2 lockfastlaw11_TileOne.B26 = true := by kernel_rfl
def lockfastlaw11_TileOne.T28 : Bool × List (List Nat × List Nat) := (true, [([], []), ([], []), ([0, 1], [0, 1]), ([], []), ([3], [3]), ([2, 4], [2, 4]), ([5], [5]), ([6], [6]), ([6], [6]), ([6], [6]), ([8, 9, 6], [6, 8, 9]), ([7, 10, 6], [6, 7, 10]), ([11, 6], [6, 11]), ([6], [6]), ([6], [6]), ([13, 14, 6], [6, 13, 14]), ([15, 6], [6, 15]), ([12, 16, 6], [6, 12, 16]), ([6, 17], [6, 17])])
def lockfastlaw11_TileOne.B28 : List Nat := [0, 0, 3, 0, 8, 31, 63, 127, 127, 127, 895, 2047, 4095, 127, 127, 24703, 57471, 131071, 262143]
theorem lockfastlaw11_TileOne.tab28 : rtab .any (opsOf Tryd.f6 28) = lockfastlaw11_TileOne.T28 := by kernel_rfl
theorem lockfastlaw11_TileOne.bits28 : waitsOk lockfastlaw11_TileOne.T28.2 lockfastlaw11_TileOne.B28 = true := by kernel_rfl
set_option maxHeartbeats 8000000 in
set_option maxRecDepth 100000 in
theorem lockfastlaw11_TileOne.calls (k : Nat) (A0 : Option Addr) (c0 : Nat) (l0 : List Int) (a1 : Int) (a2 : Int) (r : Bool) (w : World) (hr0 : Kd.C (Kd.int .u16) w A0 l0.length l0) (hc0 : l0.length ≤ c0) (h : lockfastlaw11_TileOne.f k l0 a1 a2 = some r) :
    CallsG 6 #[.slice A0 l0.length c0, .int .u8 a1, .int .u8 a2] w fun e w' => e = .returned (.bool r) ∧ Below w.heap.size w w' := by
  intro HG0_
  have HG := Aside0.mk HG0_
  clear HG0_
  have hu29 := Tryd.underlying29
  have hu42 := Tryd.underlying42
  have HR0 := Aside0.mk hr0
  have HC0 := Aside0.mk hc0
  clear hr0 hc0
  have HB := Aside0.mk (Below.refl w.heap.size w)
  have H : ((lockfastlaw11_awake.f k).bind fun t325 => (if (l0.length : Int) > 60 then (some t325) else ((lockfastref11_Made.f k l0 40).bind fun t326 => (if (t326.length : Int) = 0 then (some t325) else (if 0 ≤ (Int.tmod (wrap64 (a1)) (t326.length : Int)) then (if (Int.tmod (wrap64 (a1)) (t326.length : Int)) < (t326.length : Int) then ((chunk_Decode.f (rd t326 (Int.tmod (wrap64 (a1)) (t326.length : Int)))).bind fun bt330 => (if bt330.2.2.2.2.2 = true then (if bt330.1 = 1 then ((lockfastref09_Many.f k bt330.2.1).bind fun t337 => (if t337 = 0 then (none) else ((some (([] : List Int) : List Int)).bind fun y338 => (if y338.length + t326.length < 17592186044416 then ((some (y338 ++ t326 : List Int)).bind fun y341 => ((chunk_Bit.f (Int.tmod (wrap64 (a2)) t337)).bind fun t345 => (if (Int.tmod (wrap64 (a1)) (t326.length : Int)) < (y341.length : Int) then ((some (([] : List Int) : List Int)).bind fun y347 => (if y347.length + t326.length < 17592186044416 then ((some (y347 ++ t326 : List Int)).bind fun y350 => ((chunk_Bit.f (Int.tmod (wrap64 (a2)) t337)).bind fun t354 => (if (Int.tmod (wrap64 (a1)) (t326.length : Int)) < (y350.length : Int) then ((tile_Blocks.f k (y341.set ((Int.tmod (wrap64 (a1)) (t326.length : Int)) : Int).toNat (Go.bits .or .u64 (rd t326 (Int.tmod (wrap64 (a1)) (t326.length : Int))) t345))).bind fun t356 => ((tile_Blocks.f k (y350.set ((Int.tmod (wrap64 (a1)) (t326.length : Int)) : Int).toNat (Go.bits .andNot .u64 (rd t326 (Int.tmod (wrap64 (a1)) (t326.length : Int))) t354))).bind fun t359 => (if (t356.length : Int) = (wrap64 ((t359.length : Int) + 1)) then (lockfastlaw11_TileOne.l0 k t325 (Int.tmod (wrap64 (a1)) (t326.length : Int)) (Int.tmod (wrap64 (a2)) t337) t356 t359 0 0 bt330.1 bt330.2.1 bt330.2.2.1 bt330.2.2.2.1 bt330.2.2.2.2.1) else (some false)))) else (none)))) else (none))) else (none)))) else (none))))) else (some t325)) else (some false))) else (none)) else (none)))))) = some r := h
  clear h
  replace H := Option.bind_eq_some_iff.mp H
  obtain ⟨t325, A40, H⟩ := H
  replace H : (if (l0.length : Int) > 60 then (some t325) else ((lockfastref11_Made.f k l0 40).bind fun t326 => (if (t326.length : Int) = 0 then (some t325) else (if 0 ≤ (Int.tmod (wrap64 (a1)) (t326.length : Int)) then (if (Int.tmod (wrap64 (a1)) (t326.length : Int)) < (t326.length : Int) then ((chunk_Decode.f (rd t326 (Int.tmod (wrap64 (a1)) (t326.length : Int)))).bind fun bt330 => (if bt330.2.2.2.2.2 = true then (if bt330.1 = 1 then ((lockfastref09_Many.f k bt330.2.1).bind fun t337 => (if t337 = 0 then (none) else ((some (([] : List Int) : List Int)).bind fun y338 => (if y338.length + t326.length < 17592186044416 then ((some (y338 ++ t326 : List Int)).bind fun y341 => ((chunk_Bit.f (Int.tmod (wrap64 (a2)) t337)).bind fun t345 => (if (Int.tmod (wrap64 (a1)) (t326.length : Int)) < (y341.length : Int) then ((some (([] : List Int) : List Int)).bind fun y347 => (if y347.length + t326.length < 17592186044416 then ((some (y347 ++ t326 : List Int)).bind fun y350 => ((chunk_Bit.f (Int.tmod (wrap64 (a2)) t337)).bind fun t354 => (if (Int.tmod (wrap64 (a1)) (t326.length : Int)) < (y350.length : Int) then ((tile_Blocks.f k (y341.set ((Int.tmod (wrap64 (a1)) (t326.length : Int)) : Int).toNat (Go.bits .or .u64 (rd t326 (Int.tmod (wrap64 (a1)) (t326.length : Int))) t345))).bind fun t356 => ((tile_Blocks.f k (y350.set ((Int.tmod (wrap64 (a1)) (t326.length : Int)) : Int).toNat (Go.bits .andNot .u64 (rd t326 (Int.tmod (wrap64 (a1)) (t326.length : Int))) t354))).bind fun t359 => (if (t356.length : Int) = (wrap64 ((t359.length : Int) + 1)) then (lockfastlaw11_TileOne.l0 k t325 (Int.tmod (wrap64 (a1)) (t326.length : Int)) (Int.tmod (wrap64 (a2)) t337) t356 t359 0 0 bt330.1 bt330.2.1 bt330.2.2.1 bt330.2.2.2.1 bt330.2.2.2.2.1) else (some false)))) else (none)))) else (none))) else (none)))) else (none))))) else (some t325)) else (some false))) else (none)) else (none))))) = some r := H
  have A4 := Aside0.mk A40
  clear A40
  by_cases c5 : (l0.length : Int) > 60
  · rw [if_pos c5] at H
    have c5b0 : decide (60 < (l0.length : Int)) = true := decide_eq_true c5
    have c5b1 : decide (60 < l0.length) = true := decide_eq_true (by omega)
    clear c5
    obtain rfl := Option.some.inj H
    go_enter Tryd.func6, Tryd.ntmps6
    go_wp2_with (first | ((with_reducible refine gate_callee (f := 15) rfl ?_); refine goesL_ (some 19) rfl rfl Tryd.func15 (by kernel_rfl) rfl #[] rfl (by (try simp only [List.map_toArray, List.map_cons, List.map_nil]); first | done | rfl | (simp only [List.length_drop, List.length_take]; rfl)) ?_; (with_reducible refine (lockfastlaw11_awake.calls k  t325 _ A4.out).mono ?_); rintro e w6 ⟨rfl, hb⟩; refine ⟨_, rfl, ?_⟩; have n0_ := Aside0.mk (below_step (by repeat (first | (with_reducible first | exact HB.out | apply below_alloc | apply pw_below_drewN | apply below_drew1) | exact HB.out)) hb); clear HB; have HB := n0_; clear n0_; (try clear hb); (try clear hb2); (try clear hk); (try clear hi)))
    go_ret
    exact ⟨by first | rfl | (simp [errW_none, errW_some] <;> rfl) | (simp [*, errW_none, errW_some] <;> rfl), by repeat (first | (with_reducible first | exact HB.out | apply below_alloc | apply pw_below_drewN | apply below_drew1) | exact HB.out)⟩
  · rw [if_neg c5] at H
    have c5b0 : decide (60 < (l0.length : Int)) = false := decide_eq_false c5
    have c5b1 : decide (60 < l0.length) = false := decide_eq_false (by omega)
    clear c5
    replace H := Option.bind_eq_some_iff.mp H
    obtain ⟨t326, A70, H⟩ := H
    replace H : (if (t326.length : Int) = 0 then (some t325) else (if 0 ≤ (Int.tmod (wrap64 (a1)) (t326.length : Int)) then (if (Int.tmod (wrap64 (a1)) (t326.length : Int)) < (t326.length : Int) then ((chunk_Decode.f (rd t326 (Int.tmod (wrap64 (a1)) (t326.length : Int)))).bind fun bt330 => (if bt330.2.2.2.2.2 = true then (if bt330.1 = 1 then ((lockfastref09_Many.f k bt330.2.1).bind fun t337 => (if t337 = 0 then (none) else ((some (([] : List Int) : List Int)).bind fun y338 => (if y338.length + t326.length < 17592186044416 then ((some (y338 ++ t326 : List Int)).bind fun y341 => ((chunk_Bit.f (Int.tmod (wrap64 (a2)) t337)).bind fun t345 => (if (Int.tmod (wrap64 (a1)) (t326.length : Int)) < (y341.length : Int) then ((some (([] : List Int) : List Int)).bind fun y347 => (if y347.length + t326.length < 17592186044416 then ((some (y347 ++ t326 : List Int)).bind fun y350 => ((chunk_Bit.f (Int.tmod (wrap64 (a2)) t337)).bind fun t354 => (if (Int.tmod (wrap64 (a1)) (t326.length : Int)) < (y350.length : Int) then ((tile_Blocks.f k (y341.set ((Int.tmod (wrap64 (a1)) (t326.length : Int)) : Int).toNat (Go.bits .or .u64 (rd t326 (Int.tmod (wrap64 (a1)) (t326.length : Int))) t345))).bind fun t356 => ((tile_Blocks.f k (y350.set ((Int.tmod (wrap64 (a1)) (t326.length : Int)) : Int).toNat (Go.bits .andNot .u64 (rd t326 (Int.tmod (wrap64 (a1)) (t326.length : Int))) t354))).bind fun t359 => (if (t356.length : Int) = (wrap64 ((t359.length : Int) + 1)) then (lockfastlaw11_TileOne.l0 k t325 (Int.tmod (wrap64 (a1)) (t326.length : Int)) (Int.tmod (wrap64 (a2)) t337) t356 t359 0 0 bt330.1 bt330.2.1 bt330.2.2.1 bt330.2.2.2.1 bt330.2.2.2.2.1) else (some false)))) else (none)))) else (none))) else (none)))) else (none))))) else (some t325)) else (some false))) else (none)) else (none))) = some r := H
    have A7 := Aside0.mk A70
    clear A70
    by_cases c8 : (t326.length : Int) = 0
    · rw [if_pos c8] at H
      have c8b0 : ((t326.length : Int) == 0) = true := beq_iff_eq.mpr c8
      have c8b1 : ((t326.length : Int) != 0) = false := bne_eq_false_iff_eq.mpr c8
      clear c8
      obtain rfl := Option.some.inj H
      go_enter Tryd.func6, Tryd.ntmps6
      go_wp2_with (first | ((with_reducible refine gate_callee (f := 15) rfl ?_); refine goesL_ (some 19) rfl rfl Tryd.func15 (by kernel_rfl) rfl #[] rfl (by (try simp only [List.map_toArray, List.map_cons, List.map_nil]); first | done | rfl | (simp only [List.length_drop, List.length_take]; rfl)) ?_; (with_reducible refine (lockfastlaw11_awake.calls k  t325 _ A4.out).mono ?_); rintro e w9 ⟨rfl, hb⟩; refine ⟨_, rfl, ?_⟩; have n0_ := Aside0.mk (below_step (by repeat (first | (with_reducible first | exact HB.out | apply below_alloc | apply pw_below_drewN | apply below_drew1) | exact HB.out)) hb); clear HB; have HB := n0_; clear n0_; (try clear hb); (try clear hb2); (try clear hk); (try clear hi)) | ((with_reducible refine gate_callee (f := 20) rfl ?_); refine goesL_ (some 25) rfl rfl Tryd.func20 (by kernel_rfl) rfl #[.slice A0 l0.length c0, .int .i64 40] rfl (by (try simp only [List.map_toArray, List.map_cons, List.map_nil]); first | done | rfl | (simp only [List.length_drop, List.length_take]; rfl)) ?_; (with_reducible refine (lockfastref11_Made.calls k _ _ l0 40 t326 _ ?side1 ?side2 A7.out).mono ?_); (case side1 => repeat (first | exact (Kd.C_below HR0.out HB.out) | (with_reducible refine Kd.C_alloc ?_ _) | (with_reducible refine Kd.C_drewN ?_ _) | (with_reducible refine Kd.C_drew ?_))); (case side2 => exact HC0.out); rintro e w10 ⟨v327, rfl, ho0, hb⟩; refine ⟨_, rfl, ?_⟩; have n0_ := Aside0.mk (Kd.R_lower ho0 (below_size (by repeat (first | (with_reducible first | exact HB.out | apply below_alloc | apply pw_below_drewN | apply below_drew1) | exact HB.out)))); have n1_ := Aside0.mk (below_step (by repeat (first | (with_reducible first | exact HB.out | apply below_alloc | apply pw_below_drewN | apply below_drew1) | exact HB.out)) hb); clear HB; have HO328 := n0_; have HB := n1_; clear n0_ n1_; (try clear hb); (try clear hb2); (try clear hk); (try clear hi); (try clear ho0); obtain ⟨Ao11, co11, eo11⟩ := Kd.R_slice HO328.out; subst eo11))
      go_ret
      exact ⟨by first | rfl | (simp [errW_none, errW_some] <;> rfl) | (simp [*, errW_none, errW_some] <;> rfl), by repeat (first | (with_reducible first | exact HB.out | apply below_alloc | apply pw_below_drewN | apply below_drew1) | exact HB.out)⟩
    · rw [if_neg c8] at H
      have c8b0 : ((t326.length : Int) == 0) = false := beq_eq_false_iff_ne.mpr c8
      have c8b1 : ((t326.length : Int) != 0) = true := bne_iff_ne.mpr c8
      have c8b2 : ¬ (t326 = []) := fun h_ => c8 (by rw [h_]; rfl)
      obtain ⟨ji12, hji12⟩ : ∃ j_ : Int, (Int.tmod (wrap64 (a1)) (t326.length : Int)) = j_ := ⟨_, rfl⟩
      replace H : (if 0 ≤ (ji12) then (if (ji12) < (t326.length : Int) then ((chunk_Decode.f (rd t326 (ji12))).bind fun bt330 => (if bt330.2.2.2.2.2 = true then (if bt330.1 = 1 then ((lockfastref09_Many.f k bt330.2.1).bind fun t337 => (if t337 = 0 then (none) else ((some (([] : List Int) : List Int)).bind fun y338 => (if y338.length + t326.length < 17592186044416 then ((some (y338 ++ t326 : List Int)).bind fun y341 => ((chunk_Bit.f (Int.tmod (wrap64 (a2)) t337)).bind fun t345 => (if (ji12) < (y341.length : Int) then ((some (([] : List Int) : List Int)).bind fun y347 => (if y347.length + t326.length < 17592186044416 then ((some (y347 ++ t326 : List Int)).bind fun y350 => ((chunk_Bit.f (Int.tmod (wrap64 (a2)) t337)).bind fun t354 => (if (ji12) < (y350.length : Int) then ((tile_Blocks.f k (y341.set ((ji12) : Int).toNat (Go.bits .or .u64 (rd t326 (ji12)) t345))).bind fun t356 => ((tile_Blocks.f k (y350.set ((ji12) : Int).toNat (Go.bits .andNot .u64 (rd t326 (ji12)) t354))).bind fun t359 => (if (t356.length : Int) = (wrap64 ((t359.length : Int) + 1)) then (lockfastlaw11_TileOne.l0 k t325 ji12 (Int.tmod (wrap64 (a2)) t337) t356 t359 0 0 bt330.1 bt330.2.1 bt330.2.2.1 bt330.2.2.2.1 bt330.2.2.2.2.1) else (some false)))) else (none)))) else (none))) else (none)))) else (none))))) else (some t325)) else (some false))) else (none)) else (none)) = some r := by first | (rw [hji12] at H; exact H) | (simp only [hji12] at H ⊢; exact H)
      (try rw [hji12] at A4)
      (try rw [hji12] at A7)
      by_cases c13 : 0 ≤ (ji12)
      · rw [if_pos c13] at H
        have c13b0 : decide (0 ≤ (ji12)) = true := decide_eq_true c13
        clear c13
        by_cases c14 : (ji12) < (t326.length : Int)
        · rw [if_pos c14] at H
          have c14b0 : decide ((ji12) < (t326.length : Int)) = true := decide_eq_true c14
          clear c14
          replace H := Option.bind_eq_some_iff.mp H
          obtain ⟨⟨t330, t331, t332, t333, t334, t335⟩, A150, H⟩ := H
          replace H : (if t335 = true then (if t330 = 1 then ((lockfastref09_Many.f k t331).bind fun t337 => (if t337 = 0 then (none) else ((some (([] : List Int) : List Int)).bind fun y338 => (if y338.length + t326.length < 17592186044416 then ((some (y338 ++ t326 : List Int)).bind fun y341 => ((chunk_Bit.f (Int.tmod (wrap64 (a2)) t337)).bind fun t345 => (if (ji12) < (y341.length : Int) then ((some (([] : List Int) : List Int)).bind fun y347 => (if y347.length + t326.length < 17592186044416 then ((some (y347 ++ t326 : List Int)).bind fun y350 => ((chunk_Bit.f (Int.tmod (wrap64 (a2)) t337)).bind fun t354 => (if (ji12) < (y350.length : Int) then ((tile_Blocks.f k (y341.set ((ji12) : Int).toNat (Go.bits .or .u64 (rd t326 (ji12)) t345))).bind fun t356 => ((tile_Blocks.f k (y350.set ((ji12) : Int).toNat (Go.bits .andNot .u64 (rd t326 (ji12)) t354))).bind fun t359 => (if (t356.length : Int) = (wrap64 ((t359.length : Int) + 1)) then (lockfastlaw11_TileOne.l0 k t325 ji12 (Int.tmod (wrap64 (a2)) t337) t356 t359 0 0 t330 t331 t332 t333 t334) else (some false)))) else (none)))) else (none))) else (none)))) else (none))))) else (some t325)) else (some false)) = some r := H
          have A15 := Aside0.mk A150
          clear A150
          by_cases c16 : t335 = true
          · subst c16
            have H1 : (if t330 = 1 then ((lockfastref09_Many.f k t331).bind fun t337 => (if t337 = 0 then (none) else ((some (([] : List Int) : List Int)).bind fun y338 => (if y338.length + t326.length < 17592186044416 then ((some (y338 ++ t326 : List Int)).bind fun y341 => ((chunk_Bit.f (Int.tmod (wrap64 (a2)) t337)).bind fun t345 => (if (ji12) < (y341.length : Int) then ((some (([] : List Int) : List Int)).bind fun y347 => (if y347.length + t326.length < 17592186044416 then ((some (y347 ++ t326 : List Int)).bind fun y350 => ((chunk_Bit.f (Int.tmod (wrap64 (a2)) t337)).bind fun t354 => (if (ji12) < (y350.length : Int) then ((tile_Blocks.f k (y341.set ((ji12) : Int).toNat (Go.bits .or .u64 (rd t326 (ji12)) t345))).bind fun t356 => ((tile_Blocks.f k (y350.set ((ji12) : Int).toNat (Go.bits .andNot .u64 (rd t326 (ji12)) t354))).bind fun t359 => (if (t356.length : Int) = (wrap64 ((t359.length : Int) + 1)) then (lockfastlaw11_TileOne.l0 k t325 ji12 (Int.tmod (wrap64 (a2)) t337) t356 t359 0 0 t330 t331 t332 t333 t334) else (some false)))) else (none)))) else (none))) else (none)))) else (none))))) else (some t325)) = some r := by rw [if_pos rfl] at H; exact H
            clear H
            have H := H1
            clear H1
            by_cases c17 : t330 = 1
            · rw [if_pos c17] at H
              have c17b0 : (t330 == 1) = true := beq_iff_eq.mpr c17
              have c17b1 : (t330 != 1) = false := bne_eq_false_iff_eq.mpr c17
              clear c17
              replace H := Option.bind_eq_some_iff.mp H
              obtain ⟨t337, A180, H⟩ := H
              replace H : (if t337 = 0 then (none) else ((some (([] : List Int) : List Int)).bind fun y338 => (if y338.length + t326.length < 17592186044416 then ((some (y338 ++ t326 : List Int)).bind fun y341 => ((chunk_Bit.f (Int.tmod (wrap64 (a2)) t337)).bind fun t345 => (if (ji12) < (y341.length : Int) then ((some (([] : List Int) : List Int)).bind fun y347 => (if y347.length + t326.length < 17592186044416 then ((some (y347 ++ t326 : List Int)).bind fun y350 => ((chunk_Bit.f (Int.tmod (wrap64 (a2)) t337)).bind fun t354 => (if (ji12) < (y350.length : Int) then ((tile_Blocks.f k (y341.set ((ji12) : Int).toNat (Go.bits .or .u64 (rd t326 (ji12)) t345))).bind fun t356 => ((tile_Blocks.f k (y350.set ((ji12) : Int).toNat (Go.bits .andNot .u64 (rd t326 (ji12)) t354))).bind fun t359 => (if (t356.length : Int) = (wrap64 ((t359.length : Int) + 1)) then (lockfastlaw11_TileOne.l0 k t325 ji12 (Int.tmod (wrap64 (a2)) t337) t356 t359 0 0 t330 t331 t332 t333 t334) else (some false)))) else (none)))) else (none))) else (none)))) else (none)))) = some r := H
              have A18 := Aside0.mk A180
              clear A180
              by_cases c19 : t337 = 0
              · rw [if_pos c19] at H
                exact absurd H (by simp)
              · rw [if_neg c19] at H
                have c19b0 : (t337 == 0) = false := beq_eq_false_iff_ne.mpr c19
                have c19b1 : (t337 != 0) = true := bne_iff_ne.mpr c19
                obtain ⟨y338, hy338⟩ : ∃ y_ : List Int, y_ = (([] : List Int)) := ⟨_, rfl⟩
                replace H : (if y338.length + t326.length < 17592186044416 then ((some (y338 ++ t326 : List Int)).bind fun y341 => ((chunk_Bit.f (Int.tmod (wrap64 (a2)) t337)).bind fun t345 => (if (ji12) < (y341.length : Int) then ((some (([] : List Int) : List Int)).bind fun y347 => (if y347.length + t326.length < 17592186044416 then ((some (y347 ++ t326 : List Int)).bind fun y350 => ((chunk_Bit.f (Int.tmod (wrap64 (a2)) t337)).bind fun t354 => (if (ji12) < (y350.length : Int) then ((tile_Blocks.f k (y341.set ((ji12) : Int).toNat (Go.bits .or .u64 (rd t326 (ji12)) t345))).bind fun t356 => ((tile_Blocks.f k (y350.set ((ji12) : Int).toNat (Go.bits .andNot .u64 (rd t326 (ji12)) t354))).bind fun t359 => (if (t356.length : Int) = (wrap64 ((t359.length : Int) + 1)) then (lockfastlaw11_TileOne.l0 k t325 ji12 (Int.tmod (wrap64 (a2)) t337) t356 t359 0 0 t330 t331 t332 t333 t334) else (some false)))) else (none)))) else (none))) else (none)))) else (none)) = some r := by first | (rw [hy338]; with_reducible exact H) | (have H2_ := (Option.bind_some _ _).symm.trans H; rw [hy338]; with_reducible exact H2_) | (have H2_ := (Option.bind_some _ _).symm.trans H; with_reducible exact H2_) | with_reducible exact H | (rw [hy338]; exact H) | exact H
                have Ny338 := Aside0.mk hy338
                clear hy338
                by_cases c20 : y338.length + t326.length < 17592186044416
                · rw [if_pos c20] at H
                  have LMc20 := Aside0.mk c20
                  clear c20
                  obtain ⟨y341, hy341⟩ : ∃ y_ : List Int, y_ = (y338 ++ t326) := ⟨_, rfl⟩
                  replace H : ((chunk_Bit.f (Int.tmod (wrap64 (a2)) t337)).bind fun t345 => (if (ji12) < (y341.length : Int) then ((some (([] : List Int) : List Int)).bind fun y347 => (if y347.length + t326.length < 17592186044416 then ((some (y347 ++ t326 : List Int)).bind fun y350 => ((chunk_Bit.f (Int.tmod (wrap64 (a2)) t337)).bind fun t354 => (if (ji12) < (y350.length : Int) then ((tile_Blocks.f k (y341.set ((ji12) : Int).toNat (Go.bits .or .u64 (rd t326 (ji12)) t345))).bind fun t356 => ((tile_Blocks.f k (y350.set ((ji12) : Int).toNat (Go.bits .andNot .u64 (rd t326 (ji12)) t354))).bind fun t359 => (if (t356.length : Int) = (wrap64 ((t359.length : Int) + 1)) then (lockfastlaw11_TileOne.l0 k t325 ji12 (Int.tmod (wrap64 (a2)) t337) t356 t359 0 0 t330 t331 t332 t333 t334) else (some false)))) else (none)))) else (none))) else (none))) = some r := by first | (rw [hy341]; with_reducible exact H) | (have H2_ := (Option.bind_some _ _).symm.trans H; rw [hy341]; with_reducible exact H2_) | (have H2_ := (Option.bind_some _ _).symm.trans H; with_reducible exact H2_) | with_reducible exact H | (rw [hy341]; exact H) | exact H
                  have Ny341 := Aside0.mk hy341
                  clear hy341
                  replace H := Option.bind_eq_some_iff.mp H
                  obtain ⟨t345, A210, H⟩ := H
                  replace H : (if (ji12) < (y341.length : Int) then ((some (([] : List Int) : List Int)).bind fun y347 => (if y347.length + t326.length < 17592186044416 then ((some (y347 ++ t326 : List Int)).bind fun y350 => ((chunk_Bit.f (Int.tmod (wrap64 (a2)) t337)).bind fun t354 => (if (ji12) < (y350.length : Int) then ((tile_Blocks.f k (y341.set ((ji12) : Int).toNat (Go.bits .or .u64 (rd t326 (ji12)) t345))).bind fun t356 => ((tile_Blocks.f k (y350.set ((ji12) : Int).toNat (Go.bits .andNot .u64 (rd t326 (ji12)) t354))).bind fun t359 => (if (t356.length : Int) = (wrap64 ((t359.length : Int) + 1)) then (lockfastlaw11_TileOne.l0 k t325 ji12 (Int.tmod (wrap64 (a2)) t337) t356 t359 0 0 t330 t331 t332 t333 t334) else (some false)))) else (none)))) else (none))) else (none)) = some r := H
                  have A21 := Aside0.mk A210
                  clear A210
                  by_cases c22 : (ji12) < (y341.length : Int)
                  · rw [if_pos c22] at H
                    have c22b0 : decide ((ji12) < (y341.length : Int)) = true := decide_eq_true c22
                    clear c22
                    obtain ⟨y346, hy346⟩ : ∃ y_ : List Int, y_ = (y341.set ((ji12) : Int).toNat (Go.bits .or .u64 (rd t326 (ji12)) t345)) := ⟨_, rfl⟩
                    replace H : ((some (([] : List Int) : List Int)).bind fun y347 => (if y347.length + t326.length < 17592186044416 then ((some (y347 ++ t326 : List Int)).bind fun y350 => ((chunk_Bit.f (Int.tmod (wrap64 (a2)) t337)).bind fun t354 => (if (ji12) < (y350.length : Int) then ((tile_Blocks.f k y346).bind fun t356 => ((tile_Blocks.f k (y350.set ((ji12) : Int).toNat (Go.bits .andNot .u64 (rd t326 (ji12)) t354))).bind fun t359 => (if (t356.length : Int) = (wrap64 ((t359.length : Int) + 1)) then (lockfastlaw11_TileOne.l0 k t325 ji12 (Int.tmod (wrap64 (a2)) t337) t356 t359 0 0 t330 t331 t332 t333 t334) else (some false)))) else (none)))) else (none))) = some r := by first | (rw [hy346]; with_reducible exact H) | (have H2_ := (Option.bind_some _ _).symm.trans H; rw [hy346]; with_reducible exact H2_) | (have H2_ := (Option.bind_some _ _).symm.trans H; with_reducible exact H2_) | with_reducible exact H | (rw [hy346]; exact H) | exact H
                    have Ny346 := Aside0.mk hy346
                    clear hy346
                    obtain ⟨y347, hy347⟩ : ∃ y_ : List Int, y_ = (([] : List Int)) := ⟨_, rfl⟩
                    replace H : (if y347.length + t326.length < 17592186044416 then ((some (y347 ++ t326 : List Int)).bind fun y350 => ((chunk_Bit.f (Int.tmod (wrap64 (a2)) t337)).bind fun t354 => (if (ji12) < (y350.length : Int) then ((tile_Blocks.f k y346).bind fun t356 => ((tile_Blocks.f k (y350.set ((ji12) : Int).toNat (Go.bits .andNot .u64 (rd t326 (ji12)) t354))).bind fun t359 => (if (t356.length : Int) = (wrap64 ((t359.length : Int) + 1)) then (lockfastlaw11_TileOne.l0 k t325 ji12 (Int.tmod (wrap64 (a2)) t337) t356 t359 0 0 t330 t331 t332 t333 t334) else (some false)))) else (none)))) else (none)) = some r := by first | (rw [hy347]; with_reducible exact H) | (have H2_ := (Option.bind_some _ _).symm.trans H; rw [hy347]; with_reducible exact H2_) | (have H2_ := (Option.bind_some _ _).symm.trans H; with_reducible exact H2_) | with_reducible exact H | (rw [hy347]; exact H) | exact H
                    have Ny347 := Aside0.mk hy347
                    clear hy347
                    by_cases c24 : y347.length + t326.length < 17592186044416
                    · rw [if_pos c24] at H
                      have LMc24 := Aside0.mk c24
                      clear c24
                      obtain ⟨y350, hy350⟩ : ∃ y_ : List Int, y_ = (y347 ++ t326) := ⟨_, rfl⟩
                      replace H : ((chunk_Bit.f (Int.tmod (wrap64 (a2)) t337)).bind fun t354 => (if (ji12) < (y350.length : Int) then ((tile_Blocks.f k y346).bind fun t356 => ((tile_Blocks.f k (y350.set ((ji12) : Int).toNat (Go.bits .andNot .u64 (rd t326 (ji12)) t354))).bind fun t359 => (if (t356.length : Int) = (wrap64 ((t359.length : Int) + 1)) then (lockfastlaw11_TileOne.l0 k t325 ji12 (Int.tmod (wrap64 (a2)) t337) t356 t359 0 0 t330 t331 t332 t333 t334) else (some false)))) else (none))) = some r := by first | (rw [hy350]; with_reducible exact H) | (have H2_ := (Option.bind_some _ _).symm.trans H; rw [hy350]; with_reducible exact H2_) | (have H2_ := (Option.bind_some _ _).symm.trans H; with_reducible exact H2_) | with_reducible exact H | (rw [hy350]; exact H) | exact H
                      have Ny350 := Aside0.mk hy350
                      clear hy350
                      replace H := Option.bind_eq_some_iff.mp H
                      obtain ⟨t354, A250, H⟩ := H
                      replace H : (if (ji12) < (y350.length : Int) then ((tile_Blocks.f k y346).bind fun t356 => ((tile_Blocks.f k (y350.set ((ji12) : Int).toNat (Go.bits .andNot .u64 (rd t326 (ji12)) t354))).bind fun t359 => (if (t356.length : Int) = (wrap64 ((t359.length : Int) + 1)) then (lockfastlaw11_TileOne.l0 k t325 ji12 (Int.tmod (wrap64 (a2)) t337) t356 t359 0 0 t330 t331 t332 t333 t334) else (some false)))) else (none)) = some r := H
                      have A25 := Aside0.mk A250
                      clear A250
                      by_cases c26 : (ji12) < (y350.length : Int)
                      · rw [if_pos c26] at H
                        have c26b0 : decide ((ji12) < (y350.length : Int)) = true := decide_eq_true c26
                        clear c26
                        obtain ⟨y355, hy355⟩ : ∃ y_ : List Int, y_ = (y350.set ((ji12) : Int).toNat (Go.bits .andNot .u64 (rd t326 (ji12)) t354)) := ⟨_, rfl⟩
                        replace H : ((tile_Blocks.f k y346).bind fun t356 => ((tile_Blocks.f k y355).bind fun t359 => (if (t356.length : Int) = (wrap64 ((t359.length : Int) + 1)) then (lockfastlaw11_TileOne.l0 k t325 ji12 (Int.tmod (wrap64 (a2)) t337) t356 t359 0 0 t330 t331 t332 t333 t334) else (some false)))) = some r := by first | (rw [hy355]; with_reducible exact H) | (have H2_ := (Option.bind_some _ _).symm.trans H; rw [hy355]; with_reducible exact H2_) | (have H2_ := (Option.bind_some _ _).symm.trans H; with_reducible exact H2_) | with_reducible exact H | (rw [hy355]; exact H) | exact H
                        have Ny355 := Aside0.mk hy355
                        clear hy355
                        replace H := Option.bind_eq_some_iff.mp H
                        obtain ⟨t356, A280, H⟩ := H
                        replace H : ((tile_Blocks.f k y355).bind fun t359 => (if (t356.length : Int) = (wrap64 ((t359.length : Int) + 1)) then (lockfastlaw11_TileOne.l0 k t325 ji12 (Int.tmod (wrap64 (a2)) t337) t356 t359 0 0 t330 t331 t332 t333 t334) else (some false))) = some r := H
                        have A28 := Aside0.mk A280
                        clear A280
                        replace H := Option.bind_eq_some_iff.mp H
                        obtain ⟨t359, A290, H⟩ := H
                        replace H : (if (t356.length : Int) = (wrap64 ((t359.length : Int) + 1)) then (lockfastlaw11_TileOne.l0 k t325 ji12 (Int.tmod (wrap64 (a2)) t337) t356 t359 0 0 t330 t331 t332 t333 t334) else (some false)) = some r := H
                        have A29 := Aside0.mk A290
                        clear A290
                        by_cases c30 : (t356.length : Int) = (wrap64 ((t359.length : Int) + 1))
                        · rw [if_pos c30] at H
                          have c30b0 : ((t356.length : Int) == (wrap64 ((t359.length : Int) + 1))) = true := beq_iff_eq.mpr c30
                          have c30b1 : ((t356.length : Int) != (wrap64 ((t359.length : Int) + 1))) = false := bne_eq_false_iff_eq.mpr c30
                          clear c30
                          have H' := Aside0.mk H
                          clear H
                          go_enter Tryd.func6, Tryd.ntmps6
                          try go_wp2_with (first | ((with_reducible refine gate_callee (f := 15) rfl ?_); refine goesL_ (some 19) rfl rfl Tryd.func15 (by kernel_rfl) rfl #[] rfl (by (try simp only [List.map_toArray, List.map_cons, List.map_nil]); first | done | rfl | (simp only [List.length_drop, List.length_take]; rfl)) ?_; (with_reducible refine (lockfastlaw11_awake.calls k  t325 _ A4.out).mono ?_); rintro e w31 ⟨rfl, hb⟩; refine ⟨_, rfl, ?_⟩; have n0_ := Aside0.mk (below_step (by repeat (first | (with_reducible first | exact HB.out | apply below_alloc | apply pw_below_drewN | apply below_drew1) | exact HB.out)) hb); clear HB; have HB := n0_; clear n0_; (try clear hb); (try clear hb2); (try clear hk); (try clear hi)) | ((with_reducible refine gate_callee (f := 20) rfl ?_); refine goesL_ (some 25) rfl rfl Tryd.func20 (by kernel_rfl) rfl #[.slice A0 l0.length c0, .int .i64 40] rfl (by (try simp only [List.map_toArray, List.map_cons, List.map_nil]); first | done | rfl | (simp only [List.length_drop, List.length_take]; rfl)) ?_; (with_reducible refine (lockfastref11_Made.calls k _ _ l0 40 t326 _ ?side1 ?side2 A7.out).mono ?_); (case side1 => repeat (first | exact (Kd.C_below HR0.out HB.out) | (with_reducible refine Kd.C_alloc ?_ _) | (with_reducible refine Kd.C_drewN ?_ _) | (with_reducible refine Kd.C_drew ?_))); (case side2 => exact HC0.out); rintro e w32 ⟨v327, rfl, ho0, hb⟩; refine ⟨_, rfl, ?_⟩; have n0_ := Aside0.mk (Kd.R_lower ho0 (below_size (by repeat (first | (with_reducible first | exact HB.out | apply below_alloc | apply pw_below_drewN | apply below_drew1) | exact HB.out)))); have n1_ := Aside0.mk (below_step (by repeat (first | (with_reducible first | exact HB.out | apply below_alloc | apply pw_below_drewN | apply below_drew1) | exact HB.out)) hb); clear HB; have HO328 := n0_; have HB := n1_; clear n0_ n1_; (try clear hb); (try clear hb2); (try clear hk); (try clear hi); (try clear ho0); obtain ⟨Ao33, co33, eo33⟩ := Kd.R_slice HO328.out; subst eo33; have p329 : 0 ≤ ((ji12) : Int) := of_decide_eq_true (by first | (with_reducible assumption) | assumption); have q329 : (ji12) < (t326.length : Int) := of_decide_eq_true (by first | (with_reducible assumption) | assumption); obtain ⟨ad329, e329, hx329_0⟩ := Kd.at_int (Kd.R_reads' HO328.out).2.2 (ji12) p329 q329; cases e329; replace p329 := eq_true p329; replace q329 := eq_true q329) | ((with_reducible refine gate_callee (f := 25) rfl ?_); refine goesL_ (some 40) rfl rfl Tryd.func25 (by kernel_rfl) rfl #[.int .u64 (rd t326 (ji12))] rfl (by (try simp only [List.map_toArray, List.map_cons, List.map_nil]); first | done | (simp only [hji12]; rfl) | rfl | (simp only [List.length_drop, List.length_take]; rfl)) ?_; (with_reducible refine (chunk_Decode.calls (rd t326 (ji12)) t330 t331 t332 t333 t334 true _ A15.out).mono ?_); rintro e w34 ⟨rfl, hb⟩; refine ⟨_, rfl, ?_⟩; have n0_ := Aside0.mk (Kd.R_below (by (with_reducible repeat (first | apply Kd.R_alloc | apply Kd.R_drewN | apply Kd.R_drew)); exact HO328.out) hb); have n1_ := Aside0.mk (below_step (by repeat (first | (with_reducible first | exact HB.out | apply below_alloc | apply pw_below_drewN | apply below_drew1) | exact HB.out)) hb); clear HO328; clear HB; have HO328 := n0_; have HB := n1_; clear n0_ n1_; (try clear hb); (try clear hb2); (try clear hk); (try clear hi)) | ((with_reducible refine gate_dst (N := 10) rfl ?_); refine box_event ?hg (N := 10) ?hd (cs := #[.int .i64 0, .int .i64 0, .int .i64 0, .int .i64 0, .int .u64 0]) (t := 29) ?hr ?_; (case hd => rfl); (case hg => rfl); (case hr => first | (go_simp; done) | (go_simp; rfl)); intro gb336 hg w35 hbox hb; have n0_ := Aside0.mk (Kd.R_below (by (with_reducible repeat (first | apply Kd.R_alloc | apply Kd.R_drewN | apply Kd.R_drew)); exact HO328.out) hb); have n1_ := Aside0.mk (below_step (by repeat (first | (with_reducible first | exact HB.out | apply below_alloc | apply pw_below_drewN | apply below_drew1) | exact HB.out)) hb); have n2_ := Aside0.mk (hbox); have n3_ := Aside0.mk ((by rw [hg]; exact (below_size (by repeat (first | (with_reducible first | exact HB.out | apply below_alloc | apply pw_below_drewN | apply below_drew1) | exact HB.out))) : w.heap.size ≤ gb336)); have n4_ := Aside0.mk ((by rw [hg]; exact (below_size (by repeat (first | (with_reducible first | exact HB.out | apply below_alloc | apply pw_below_drewN | apply below_drew1) | exact HB.out))) : w.heap.size ≤ gb336)); clear HO328; clear HB; have HO328 := n0_; have HB := n1_; have BK336 := n2_; have GW336 := n3_; have GE336 := n4_; clear n0_ n1_ n2_ n3_ n4_; clear hb hbox hg; have hcz36_0 : w35.cell? ⟨gb336, 0, none⟩ = some (.int .i64 0) := (blk_cell BK336.out 0).trans rfl; have hcz36_1 : w35.cell? ⟨gb336, 1, none⟩ = some (.int .i64 0) := (blk_cell BK336.out 1).trans rfl; have hcz36_2 : w35.cell? ⟨gb336, 2, none⟩ = some (.int .i64 0) := (blk_cell BK336.out 2).trans rfl; have hcz36_3 : w35.cell? ⟨gb336, 3, none⟩ = some (.int .i64 0) := (blk_cell BK336.out 3).trans rfl; have hcz36_4 : w35.cell? ⟨gb336, 4, none⟩ = some (.int .u64 0) := (blk_cell BK336.out 4).trans rfl; have hfz36_0 := blk_frozen BK336.out 0; have hfz36_1 := blk_frozen BK336.out 1; have hfz36_2 := blk_frozen BK336.out 2; have hfz36_3 := blk_frozen BK336.out 3; have hfz36_4 := blk_frozen BK336.out 4) | ((with_reducible refine gate_callee (f := 26) rfl ?_); refine goesL_ (some 53) rfl rfl Tryd.func26 (by kernel_rfl) rfl #[.int .i64 t331] rfl (by (try simp only [List.map_toArray, List.map_cons, List.map_nil]); first | done | rfl | (simp only [List.length_drop, List.length_take]; rfl)) ?_; (with_reducible refine (lockfastref09_Many.calls k t331 t337 _ A18.out).mono ?_); rintro e w' ⟨rfl, ⟨nd, rfl⟩⟩; refine ⟨_, rfl, ?_⟩) | ((with_reducible refine gate_dst (N := 55) rfl ?_); refine Kd.R_lit (Kd.int .u64) _ 27 ?hg (N := 55) ?hd (xs := ([] : List Int)) (inner := []) (ok := fun _ => True) (okp := fun _ => True) ?hr ?hp (fun _ hk => hk) trivial (Below.refl _ _) (Nat.le_refl _) (by simp) ?_; (case hd => rfl); (case hg => rfl); (case hr => first | (go_simp; done) | (go_simp; rfl)); (case hp => exact (Reps.none _ _)); intro v339 w37 ho38 hb hg_ hnew_; clear hg_ hnew_; (first | rw [← Ny338.out] at ho38 | (simp only [Int.reduceToNat] at ho38; rw [← Ny338.out] at ho38)); have n0_ := Aside0.mk (Kd.R_elder' (by (with_reducible repeat (first | apply Kd.R_alloc | apply Kd.R_drewN | apply Kd.R_drew)); exact (Kd.R_mono (Kd.R_far (p := ⟨gb336, 4, none⟩) (Kd.R_far (p := ⟨gb336, 3, none⟩) (Kd.R_far (p := ⟨gb336, 2, none⟩) (Kd.R_far (p := ⟨gb336, 1, none⟩) (Kd.R_far (p := ⟨gb336, 0, none⟩) (Kd.R_types HO328.out BK336.out (by decide)) (fun _ hk => hk.2) (.int .i64 t330)) (fun _ hk => hk.2) (.int .i64 t331)) (fun _ hk => hk.2) (.int .i64 t332)) (fun _ hk => hk.2) (.int .i64 t333)) (fun _ hk => hk.2) (.int .u64 t334)) (fun _ h_ => h_.1))) (Kd.R_base ho38) hb); have n1_ := Aside0.mk (Kd.R_lower (Kd.R_new' ho38 (Kd.R_lt (by (with_reducible repeat (first | apply Kd.R_alloc | apply Kd.R_drewN | apply Kd.R_drew)); exact (Kd.R_mono (Kd.R_far (p := ⟨gb336, 4, none⟩) (Kd.R_far (p := ⟨gb336, 3, none⟩) (Kd.R_far (p := ⟨gb336, 2, none⟩) (Kd.R_far (p := ⟨gb336, 1, none⟩) (Kd.R_far (p := ⟨gb336, 0, none⟩) (Kd.R_types HO328.out BK336.out (by decide)) (fun _ hk => hk.2) (.int .i64 t330)) (fun _ hk => hk.2) (.int .i64 t331)) (fun _ hk => hk.2) (.int .i64 t332)) (fun _ hk => hk.2) (.int .i64 t333)) (fun _ hk => hk.2) (.int .u64 t334)) (fun _ h_ => h_.1))))) (below_size (by repeat (first | (with_reducible first | exact HB.out | apply below_alloc | apply pw_below_drewN | apply below_drew1 | refine below_set ?_ GE336.out) | exact HB.out)))); have n2_ := Aside0.mk (blk_below (g := gb336) (o := .cells #[.int .i64 t330, .int .i64 t331, .int .i64 t332, .int .i64 t333, .int .u64 t334] 29 (0, 0)) (by (with_reducible repeat (first | refine blk_drewN ?_ _ | refine blk_drew ?_ | refine blk_alloc ?_ _)); refine blk_put (cs := #[.int .i64 t330, .int .i64 t331, .int .i64 t332, .int .i64 t333, .int .u64 0]) ?_ 4 _ rfl; (with_reducible repeat (first | refine blk_drewN ?_ _ | refine blk_drew ?_ | refine blk_alloc ?_ _)); refine blk_put (cs := #[.int .i64 t330, .int .i64 t331, .int .i64 t332, .int .i64 0, .int .u64 0]) ?_ 3 _ rfl; (with_reducible repeat (first | refine blk_drewN ?_ _ | refine blk_drew ?_ | refine blk_alloc ?_ _)); refine blk_put (cs := #[.int .i64 t330, .int .i64 t331, .int .i64 0, .int .i64 0, .int .u64 0]) ?_ 2 _ rfl; (with_reducible repeat (first | refine blk_drewN ?_ _ | refine blk_drew ?_ | refine blk_alloc ?_ _)); refine blk_put (cs := #[.int .i64 t330, .int .i64 0, .int .i64 0, .int .i64 0, .int .u64 0]) ?_ 1 _ rfl; (with_reducible repeat (first | refine blk_drewN ?_ _ | refine blk_drew ?_ | refine blk_alloc ?_ _)); refine blk_put (cs := #[.int .i64 0, .int .i64 0, .int .i64 0, .int .i64 0, .int .u64 0]) ?_ 0 _ rfl; (with_reducible repeat (first | refine blk_drewN ?_ _ | refine blk_drew ?_ | refine blk_alloc ?_ _)); exact BK336.out) hb); have n3_ := Aside0.mk (below_step (by repeat (first | (with_reducible first | exact HB.out | apply below_alloc | apply pw_below_drewN | apply below_drew1 | refine below_set ?_ GE336.out) | exact HB.out)) hb); clear HO328; clear BK336; clear HB; have HO328 := n0_; have HO340 := n1_; have BK336 := n2_; have HB := n3_; clear n0_ n1_ n2_ n3_; clear hb ho38) | ((with_reducible refine gate_builtin (b := .append) (xs := #[.tmp 55, .tmp 56]) rfl ?_); at_builtin; refine Kd.R_append_rows (Kd.int .u64) (w0 := w) w.heap.size rfl (.tmp 55) (.tmp 56) 22 27 (.int .u64 0) 8 rfl Tryd.underlying22 info27 rfl (by decide) (by omega) v339 y338 t326 _ _ _ (fun k_ => some k_ ≠ (.slice (some ad329) t326.length co33 : Value).ownBlock) (fun _ => False) rfl rfl ?aO ?aR (fun _ _ h => h) (fun _ h => h.elim) ?aF ?aB ?aS ?aL ?_; (case aR => repeat (first | exact (Kd.R_reads' HO328.out).2.2 | (with_reducible refine Kd.C_alloc ?_ _) | (with_reducible refine Kd.C_drewN ?_ _) | (with_reducible refine Kd.C_drew ?_))); (case aB => exact (by repeat (first | (with_reducible first | exact HB.out | apply below_alloc | apply pw_below_drewN | apply below_drew1 | refine below_set ?_ GE336.out) | exact HB.out))); (case aF => exact (fun k_ hk => Kd.fresh' (Kd.R_lt (by (with_reducible repeat (first | apply Kd.R_alloc | apply Kd.R_drewN | apply Kd.R_drew)); exact HO328.out)) k_ hk)); (case aO => exact (by (with_reducible repeat (first | apply Kd.R_alloc | apply Kd.R_drewN | apply Kd.R_drew)); exact Kd.R_mono HO340.out (fun _ hk => hk.2))); (case aS => exact (below_size (by repeat (first | (with_reducible first | exact HB.out | apply below_alloc | apply pw_below_drewN | apply below_drew1 | refine below_set ?_ GE336.out) | exact HB.out)))); (case aL => have := LMc20.out; omega); intro v342 w39 ho hb hg hat; rw [← Ny341.out] at ho; have n0_ := Aside0.mk (Kd.R_after (ok := (fun _ => True)) (by (with_reducible repeat (first | apply Kd.R_alloc | apply Kd.R_drewN | apply Kd.R_drew)); exact HO328.out) hg hat); have n1_ := Aside0.mk (blk_grown (g := gb336) (o := .cells #[.int .i64 t330, .int .i64 t331, .int .i64 t332, .int .i64 t333, .int .u64 t334] 29 (0, 0)) (by (with_reducible repeat (first | refine blk_drewN ?_ _ | refine blk_drew ?_ | refine blk_alloc ?_ _)); exact BK336.out) hg (Kd.R_ne HO340.out BK336.out (by decide))); have n2_ := Aside0.mk (hb); have n3_ := Aside0.mk (ho); clear HO328; clear BK336; clear HB; clear HO340; have HO328 := n0_; have BK336 := n1_; have HB := n2_; have HO343 := n3_; clear n0_ n1_ n2_ n3_; clear ho hb hg hat))
                          have n0_ := Aside0.mk (Kd.R_drew HO328.out)
                          have n1_ := Aside0.mk (Kd.R_drew HO343.out)
                          have n2_ := Aside0.mk (blk_drew BK336.out)
                          have n3_ := Aside0.mk (below_drew1 HB.out)
                          clear HO328
                          clear HO343
                          clear BK336
                          clear HB
                          have HO328 := n0_
                          have HO343 := n1_
                          have BK336 := n2_
                          have HB := n3_
                          clear n0_ n1_ n2_ n3_
                          have p344 : 0 ≤ ((ji12) : Int) := of_decide_eq_true (by first | (with_reducible assumption) | assumption)
                          have q344 : (ji12) < (t326.length : Int) := of_decide_eq_true (by first | (with_reducible assumption) | assumption)
                          obtain ⟨ad344, e344, hx344_0⟩ := Kd.at_int (Kd.R_reads' HO328.out).2.2 (ji12) p344 q344
                          obtain rfl : ad329 = ad344 := (by injection e344)
                          replace p344 := eq_true p344
                          replace q344 := eq_true q344
                          refine start_ (n := 11) (S := fun w' => w'.cell? (ad329.add ((ji12)).toNat) = some (.int .u64 (rd t326 (ji12)))) (ds := [10]) #[false, false, false, false, false, false, false, false, false, false, false] (by kernel_rfl) rfl rfl (hx344_0) (fun hHeld => ?_); refine with_tabW lockfastlaw11_TileOne.tab15 lockfastlaw11_TileOne.bits15 (fun HT_ HW_ => ?_)
                          generalize w39.drew = w40 at HO328 HO343 BK336 HB hx344_0 hHeld ⊢
                          refine pure_ (i := 0) (N := some 58) (v := ?_) (a' := ?_) #[true, false, false, false, false, false, false, false, false, false, false] rfl rfl (any_of HT_.out (by kernel_rfl)) (fun _ _ _ h => h) (Or.inl ⟨by rfl, ?_⟩) ?_ ?_
                          rotate_left
                          · intro w'
                            go_simp
                            with_reducible rfl
                          rotate_left
                          · simp only [Act.put, List.setIfInBounds_toArray, List.set_cons_zero, List.set_cons_succ, i64_w, i32_w]
                            rfl
                          refine pure_ (i := 1) (N := some 59) (v := ?_) (a' := ?_) #[true, true, false, false, false, false, false, false, false, false, false] rfl rfl (any_of HT_.out (by kernel_rfl)) (fun _ _ _ h => h) (Or.inl ⟨by rfl, ?_⟩) ?_ ?_
                          rotate_left
                          · intro w'
                            go_simp
                            with_reducible rfl
                          rotate_left
                          · simp only [Act.put, List.setIfInBounds_toArray, List.set_cons_zero, List.set_cons_succ, i64_w, i32_w]
                            rfl
                          refine pure_ (i := 2) (N := some 60) (v := ?_) (a' := ?_) #[true, true, true, false, false, false, false, false, false, false, false] rfl rfl (any_of HT_.out (by kernel_rfl)) (fun _ _ _ h => h) (Or.inl ⟨by rfl, ?_⟩) ?_ ?_
                          rotate_left
                          · intro w'
                            go_simp
                            with_reducible rfl
                          rotate_left
                          · simp only [Act.put, List.setIfInBounds_toArray, List.set_cons_zero, List.set_cons_succ, i64_w, i32_w]
                            rfl
                          refine pure_ (i := 3) (N := some 61) (v := ?_) (a' := ?_) #[true, true, true, true, false, false, false, false, false, false, false] rfl rfl (any_of HT_.out (by kernel_rfl)) (fun _ _ _ h => h) (Or.inl ⟨by rfl, ?_⟩) ?_ ?_
                          rotate_left
                          · intro w'
                            go_simp
                            with_reducible rfl
                          rotate_left
                          · simp only [Act.put, List.setIfInBounds_toArray, List.set_cons_zero, List.set_cons_succ, i64_w, i32_w]
                            rfl
                          refine pure_ (i := 4) (N := some 62) (v := ?_) (a' := ?_) #[true, true, true, true, true, false, false, false, false, false, false] rfl rfl (any_of HT_.out (by kernel_rfl)) (fun _ _ _ h => h) (Or.inl ⟨by rfl, ?_⟩) ?_ ?_
                          rotate_left
                          · intro w'
                            go_simp
                            with_reducible rfl
                          rotate_left
                          · simp only [Act.put, List.setIfInBounds_toArray, List.set_cons_zero, List.set_cons_succ, i64_w, i32_w]
                            rfl
                          refine pure_ (i := 6) (N := some 64) (v := ?_) (a' := ?_) #[true, true, true, true, true, false, true, false, false, false, false] rfl rfl (any_of HT_.out (by kernel_rfl)) (fun _ _ _ h => h) (Or.inl ⟨by rfl, ?_⟩) ?_ ?_
                          rotate_left
                          · intro w'
                            go_simp
                            with_reducible rfl
                          rotate_left
                          · simp only [Act.put, List.setIfInBounds_toArray, List.set_cons_zero, List.set_cons_succ, i64_w, i32_w]
                            rfl
                          refine take_ (i := 5) (N := some 63) (v := ?_) (a' := ?_) #[true, true, true, true, true, true, true, false, false, false, false] rfl rfl (take_ofW HT_.out HW_.out (by kernel_rfl)) (fun _ _ _ h => h) (Or.inl ⟨by rfl, ?_⟩) hHeld ?_ ?_
                          rotate_left
                          · intro w' s0
                            go_simp
                            with_reducible rfl
                          rotate_left
                          · simp only [Act.put, List.setIfInBounds_toArray, List.set_cons_zero, List.set_cons_succ, i64_w, i32_w]
                            rfl
                          refine one_ (i := 7) (N := some 65) #[true, true, true, true, true, true, true, true, false, false, false] rfl rfl (one_of HT_.out (by kernel_rfl)) (by decide) (fun K hK => ?_)
                          refine goes_ Tryd.func27 (by kernel_rfl) rfl #[.int .i64 (Int.tmod (wrap64 (a2)) t337)] (by rfl) rfl rfl (by (try simp only [List.map_toArray, List.map_cons, List.map_nil]); first | done | rfl | (simp only [List.length_drop, List.length_take]; rfl)) ?_
                          with_reducible refine (chunk_Bit.calls (Int.tmod (wrap64 (a2)) t337) t345 _ A21.out).mono ?_
                          rintro e w' ⟨rfl, ⟨nd, rfl⟩⟩
                          refine ⟨_, rfl, ?_⟩
                          have p23 : 0 ≤ ((ji12) : Int) := of_decide_eq_true (by first | (with_reducible assumption) | assumption)
                          have q23 : ((ji12) : Int) < ((y341.length : Int) : Int) := of_decide_eq_true (by first | (with_reducible assumption) | assumption)
                          obtain ⟨go23, co23, eo23, gb23, gl23, cl23, HG23⟩ := Kd.R_form HO343.out (by omega)
                          (first | cases eo23 | (injection eo23 with ea_ en_ ec_; (first | subst ea_ | (injection ea_ with ea_; subst ea_)); subst ec_; clear en_))
                          have GB23 := Aside0.mk gb23
                          have GG23 := Aside0.mk HG23
                          clear gb23 gl23 HG23
                          obtain ⟨hx23_0, hf23_0⟩ := Kd.R_celln 0 HO343.out ((ji12) : Int) p23 q23
                          replace p23 := eq_true p23
                          replace q23 := eq_true q23
                          have HP41 := Kd.R_putn HO343.out ((ji12) : Int) (Go.bits .or .u64 (rd t326 (ji12)) t345)
                          rw [← Ny346.out] at HP41
                          have HQ41 := Aside0.mk HP41
                          clear HP41
                          refine hK.out _ _ (hHeld) (fun hHeld => ?_)
                          clear hK K
                          refine norm_ (a' := ?_) ?_ ?_
                          rotate_left
                          · show Act.put _ (some 65) _ = _
                            simp only [Act.put, List.setIfInBounds_toArray, List.set_cons_zero, List.set_cons_succ, i64_w, i32_w]
                            rfl
                          refine pure_ (i := 8) (N := some 66) (v := ?_) (a' := ?_) #[true, true, true, true, true, true, true, true, true, false, false] rfl rfl (any_of HT_.out (by kernel_rfl)) (fun _ _ _ h => h) (Or.inl ⟨by rfl, ?_⟩) ?_ ?_
                          rotate_left
                          · intro w'
                            go_simp
                            with_reducible rfl
                          rotate_left
                          · simp only [Act.put, List.setIfInBounds_toArray, List.set_cons_zero, List.set_cons_succ, i64_w, i32_w]
                            rfl
                          refine pure_ (i := 9) (N := some 67) (v := ?_) (a' := ?_) #[true, true, true, true, true, true, true, true, true, true, false] rfl rfl (any_of HT_.out (by kernel_rfl)) (fun _ _ _ h => h) (Or.inl ⟨by rfl, ?_⟩) ?_ ?_
                          rotate_left
                          · intro w'
                            go_simp
                            with_reducible rfl
                          rotate_left
                          · simp only [Act.put, List.setIfInBounds_toArray, List.set_cons_zero, List.set_cons_succ, i64_w, i32_w]
                            rfl
                          refine last_ (i := 10) (N := none) #[true, true, true, true, true, true, true, true, true, true, true] rfl rfl (one_of HT_.out (by kernel_rfl)) (by decide) (fun K hK => ?_)
                          refine skip_ (w1 := ?_) (by rfl) rfl ?_ ?_
                          rotate_left
                          · go_simp
                            rfl
                          refine hK.out _ _ ?_
                          clear hK K
                          refine done_ (done_of HT_.out (by kernel_rfl)) ?_
                          try go_wp2_with (first | ((with_reducible refine gate_dst (N := 68) rfl ?_); refine Kd.R_lit (Kd.int .u64) _ 27 ?hg (N := 68) ?hd (xs := ([] : List Int)) (inner := []) (ok := fun _ => True) (okp := fun _ => True) ?hr ?hp (fun _ hk => hk) trivial (Below.refl _ _) (Nat.le_refl _) (by simp) ?_; (case hd => rfl); (case hg => rfl); (case hr => first | (go_simp; done) | (go_simp; rfl)); (case hp => exact (Reps.none _ _)); intro v348 w42 ho43 hb hg_ hnew_; clear hg_ hnew_; (first | rw [← Ny347.out] at ho43 | (simp only [Int.reduceToNat] at ho43; rw [← Ny347.out] at ho43)); have n0_ := Aside0.mk (Kd.R_elder' (by (with_reducible repeat (first | apply Kd.R_alloc | apply Kd.R_drewN | apply Kd.R_drew)); exact (Kd.R_mono (Kd.R_far (p := ⟨go23, ((ji12) : Int).toNat, none⟩) (Kd.R_mono HO328.out (fun k_ hk => (⟨hk, fun e_ => hk.2 (by rw [e_]; rfl)⟩ : _ ∧ k_ ≠ go23))) (fun _ hk => hk.2) (.int .u64 (Go.bits .or .u64 (rd t326 (ji12)) t345))) (fun _ h_ => h_.1))) (Kd.R_base ho43) hb); have n1_ := Aside0.mk (Kd.R_elder' (by (with_reducible repeat (first | apply Kd.R_alloc | apply Kd.R_drewN | apply Kd.R_drew)); exact HQ41.out) (Kd.R_base ho43) hb); have n2_ := Aside0.mk (Kd.R_lower (Kd.R_new' (Kd.R_new' ho43 (Kd.R_lt (by (with_reducible repeat (first | apply Kd.R_alloc | apply Kd.R_drewN | apply Kd.R_drew)); exact (Kd.R_mono (Kd.R_far (p := ⟨go23, ((ji12) : Int).toNat, none⟩) (Kd.R_mono HO328.out (fun k_ hk => (⟨hk, fun e_ => hk.2 (by rw [e_]; rfl)⟩ : _ ∧ k_ ≠ go23))) (fun _ hk => hk.2) (.int .u64 (Go.bits .or .u64 (rd t326 (ji12)) t345))) (fun _ h_ => h_.1))))) (Kd.R_lt (by (with_reducible repeat (first | apply Kd.R_alloc | apply Kd.R_drewN | apply Kd.R_drew)); exact HQ41.out))) (below_size (by repeat (first | (with_reducible first | exact HB.out | apply below_alloc | apply pw_below_drewN | apply below_drew1 | refine below_set ?_ GB23.out | refine below_set ?_ GE336.out) | exact HB.out)))); have n3_ := Aside0.mk (blk_below (g := gb336) (o := .cells #[.int .i64 t330, .int .i64 t331, .int .i64 t332, .int .i64 t333, .int .u64 t334] 29 (0, 0)) (by (with_reducible repeat (first | refine blk_drewN ?_ _ | refine blk_drew ?_ | refine blk_alloc ?_ _)); refine blk_far ?_ (by have h_ := Kd.R_ne HO343.out BK336.out (by decide); intro e_; exact h_ (by rw [e_]; rfl)) _; (with_reducible repeat (first | refine blk_drewN ?_ _ | refine blk_drew ?_ | refine blk_alloc ?_ _)); exact BK336.out) hb); have n4_ := Aside0.mk (below_step (by repeat (first | (with_reducible first | exact HB.out | apply below_alloc | apply pw_below_drewN | apply below_drew1 | refine below_set ?_ GB23.out | refine below_set ?_ GE336.out) | exact HB.out)) hb); clear HO328; clear HO343; clear BK336; clear HB; have HO328 := n0_; have HO343 := n1_; have HO349 := n2_; have BK336 := n3_; have HB := n4_; clear n0_ n1_ n2_ n3_ n4_; clear hb ho43) | ((with_reducible refine gate_builtin (b := .append) (xs := #[.tmp 68, .tmp 69]) rfl ?_); at_builtin; refine Kd.R_append_rows (Kd.int .u64) (w0 := w) w.heap.size rfl (.tmp 68) (.tmp 69) 22 27 (.int .u64 0) 8 rfl Tryd.underlying22 info27 rfl (by decide) (by omega) v348 y347 t326 _ _ _ (fun k_ => some k_ ≠ (.slice (some ad329) t326.length co33 : Value).ownBlock ∧ some k_ ≠ (.slice (some ⟨go23, 0, none⟩) y341.length co23 : Value).ownBlock) (fun _ => False) rfl rfl ?aO ?aR (fun _ _ h => h) (fun _ h => h.elim) ?aF ?aB ?aS ?aL ?_; (case aR => repeat (first | exact (Kd.R_reads' HO328.out).2.2 | (with_reducible refine Kd.C_alloc ?_ _) | (with_reducible refine Kd.C_drewN ?_ _) | (with_reducible refine Kd.C_drew ?_))); (case aB => exact (by repeat (first | (with_reducible first | exact HB.out | apply below_alloc | apply pw_below_drewN | apply below_drew1 | refine below_set ?_ GE336.out) | exact HB.out))); (case aF => exact (fun k_ hk => ⟨Kd.fresh' (Kd.R_lt (by (with_reducible repeat (first | apply Kd.R_alloc | apply Kd.R_drewN | apply Kd.R_drew)); exact HO328.out)) k_ hk, Kd.fresh' (Kd.R_lt (by (with_reducible repeat (first | apply Kd.R_alloc | apply Kd.R_drewN | apply Kd.R_drew)); exact HO343.out)) k_ hk⟩)); (case aO => exact (by (with_reducible repeat (first | apply Kd.R_alloc | apply Kd.R_drewN | apply Kd.R_drew)); exact Kd.R_mono HO349.out (fun _ hk => ⟨hk.1.2, hk.2⟩))); (case aS => exact (below_size (by repeat (first | (with_reducible first | exact HB.out | apply below_alloc | apply pw_below_drewN | apply below_drew1 | refine below_set ?_ GE336.out) | exact HB.out)))); (case aL => have := LMc24.out; omega); intro v351 w44 ho hb hg hat; rw [← Ny350.out] at ho; have n0_ := Aside0.mk (Kd.R_after (ok := (fun k_ => some k_ ≠ (.slice (some ⟨go23, 0, none⟩) y341.length co23 : Value).ownBlock)) (by (with_reducible repeat (first | apply Kd.R_alloc | apply Kd.R_drewN | apply Kd.R_drew)); exact Kd.R_mono HO328.out (fun _ hk => ⟨hk.1.2, hk.2⟩)) hg hat); have n1_ := Aside0.mk (blk_grown (g := gb336) (o := .cells #[.int .i64 t330, .int .i64 t331, .int .i64 t332, .int .i64 t333, .int .u64 t334] 29 (0, 0)) (by (with_reducible repeat (first | refine blk_drewN ?_ _ | refine blk_drew ?_ | refine blk_alloc ?_ _)); exact BK336.out) hg (Kd.R_ne HO349.out BK336.out (by decide))); have n2_ := Aside0.mk (Kd.R_after (ok := (fun k_ => some k_ ≠ (.slice (some ad329) t326.length co33 : Value).ownBlock)) (by (with_reducible repeat (first | apply Kd.R_alloc | apply Kd.R_drewN | apply Kd.R_drew)); exact HO343.out) hg hat); have n3_ := Aside0.mk (hb); have n4_ := Aside0.mk (ho); clear HO328; clear BK336; clear HO343; clear HB; clear HO349; have HO328 := n0_; have BK336 := n1_; have HO343 := n2_; have HB := n3_; have HO352 := n4_; clear n0_ n1_ n2_ n3_ n4_; clear ho hb hg hat))
                          have n0_ := Aside0.mk (Kd.R_drew HO328.out)
                          have n1_ := Aside0.mk (Kd.R_drew HO343.out)
                          have n2_ := Aside0.mk (Kd.R_drew HO352.out)
                          have n3_ := Aside0.mk (blk_drew BK336.out)
                          have n4_ := Aside0.mk (below_drew1 HB.out)
                          clear HO328
                          clear HO343
                          clear HO352
                          clear BK336
                          clear HB
                          have HO328 := n0_
                          have HO343 := n1_
                          have HO352 := n2_
                          have BK336 := n3_
                          have HB := n4_
                          clear n0_ n1_ n2_ n3_ n4_
                          have p353 : 0 ≤ ((ji12) : Int) := of_decide_eq_true (by first | (with_reducible assumption) | assumption)
                          have q353 : (ji12) < (t326.length : Int) := of_decide_eq_true (by first | (with_reducible assumption) | assumption)
                          obtain ⟨ad353, e353, hx353_0⟩ := Kd.at_int (Kd.R_reads' HO328.out).2.2 (ji12) p353 q353
                          obtain rfl : ad329 = ad353 := (by injection e353)
                          replace p353 := eq_true p353
                          replace q353 := eq_true q353
                          refine start_ (n := 11) (S := fun w' => w'.cell? (ad329.add ((ji12)).toNat) = some (.int .u64 (rd t326 (ji12)))) (ds := [10]) #[false, false, false, false, false, false, false, false, false, false, false] (by kernel_rfl) rfl rfl (hx353_0) (fun hHeld => ?_); refine with_tabW lockfastlaw11_TileOne.tab17 lockfastlaw11_TileOne.bits17 (fun HT_ HW_ => ?_)
                          generalize w44.drew = w45 at HO328 HO343 HO352 BK336 HB hx353_0 hHeld ⊢
                          refine pure_ (i := 0) (N := some 71) (v := ?_) (a' := ?_) #[true, false, false, false, false, false, false, false, false, false, false] rfl rfl (any_of HT_.out (by kernel_rfl)) (fun _ _ _ h => h) (Or.inl ⟨by rfl, ?_⟩) ?_ ?_
                          rotate_left
                          · intro w'
                            go_simp
                            with_reducible rfl
                          rotate_left
                          · simp only [Act.put, List.setIfInBounds_toArray, List.set_cons_zero, List.set_cons_succ, i64_w, i32_w]
                            rfl
                          refine pure_ (i := 1) (N := some 72) (v := ?_) (a' := ?_) #[true, true, false, false, false, false, false, false, false, false, false] rfl rfl (any_of HT_.out (by kernel_rfl)) (fun _ _ _ h => h) (Or.inl ⟨by rfl, ?_⟩) ?_ ?_
                          rotate_left
                          · intro w'
                            go_simp
                            with_reducible rfl
                          rotate_left
                          · simp only [Act.put, List.setIfInBounds_toArray, List.set_cons_zero, List.set_cons_succ, i64_w, i32_w]
                            rfl
                          refine pure_ (i := 2) (N := some 73) (v := ?_) (a' := ?_) #[true, true, true, false, false, false, false, false, false, false, false] rfl rfl (any_of HT_.out (by kernel_rfl)) (fun _ _ _ h => h) (Or.inl ⟨by rfl, ?_⟩) ?_ ?_
                          rotate_left
                          · intro w'
                            go_simp
                            with_reducible rfl
                          rotate_left
                          · simp only [Act.put, List.setIfInBounds_toArray, List.set_cons_zero, List.set_cons_succ, i64_w, i32_w]
                            rfl
                          refine pure_ (i := 3) (N := some 74) (v := ?_) (a' := ?_) #[true, true, true, true, false, false, false, false, false, false, false] rfl rfl (any_of HT_.out (by kernel_rfl)) (fun _ _ _ h => h) (Or.inl ⟨by rfl, ?_⟩) ?_ ?_
                          rotate_left
                          · intro w'
                            go_simp
                            with_reducible rfl
                          rotate_left
                          · simp only [Act.put, List.setIfInBounds_toArray, List.set_cons_zero, List.set_cons_succ, i64_w, i32_w]
                            rfl
                          refine pure_ (i := 4) (N := some 75) (v := ?_) (a' := ?_) #[true, true, true, true, true, false, false, false, false, false, false] rfl rfl (any_of HT_.out (by kernel_rfl)) (fun _ _ _ h => h) (Or.inl ⟨by rfl, ?_⟩) ?_ ?_
                          rotate_left
                          · intro w'
                            go_simp
                            with_reducible rfl
                          rotate_left
                          · simp only [Act.put, List.setIfInBounds_toArray, List.set_cons_zero, List.set_cons_succ, i64_w, i32_w]
                            rfl
                          refine pure_ (i := 6) (N := some 77) (v := ?_) (a' := ?_) #[true, true, true, true, true, false, true, false, false, false, false] rfl rfl (any_of HT_.out (by kernel_rfl)) (fun _ _ _ h => h) (Or.inl ⟨by rfl, ?_⟩) ?_ ?_
                          rotate_left
                          · intro w'
                            go_simp
                            with_reducible rfl
                          rotate_left
                          · simp only [Act.put, List.setIfInBounds_toArray, List.set_cons_zero, List.set_cons_succ, i64_w, i32_w]
                            rfl
                          refine take_ (i := 5) (N := some 76) (v := ?_) (a' := ?_) #[true, true, true, true, true, true, true, false, false, false, false] rfl rfl (take_ofW HT_.out HW_.out (by kernel_rfl)) (fun _ _ _ h => h) (Or.inl ⟨by rfl, ?_⟩) hHeld ?_ ?_
                          rotate_left
                          · intro w' s0
                            go_simp
                            with_reducible rfl
                          rotate_left
                          · simp only [Act.put, List.setIfInBounds_toArray, List.set_cons_zero, List.set_cons_succ, i64_w, i32_w]
                            rfl
                          refine one_ (i := 7) (N := some 78) #[true, true, true, true, true, true, true, true, false, false, false] rfl rfl (one_of HT_.out (by kernel_rfl)) (by decide) (fun K hK => ?_)
                          refine goes_ Tryd.func27 (by kernel_rfl) rfl #[.int .i64 (Int.tmod (wrap64 (a2)) t337)] (by rfl) rfl rfl (by (try simp only [List.map_toArray, List.map_cons, List.map_nil]); first | done | rfl | (simp only [List.length_drop, List.length_take]; rfl)) ?_
                          with_reducible refine (chunk_Bit.calls (Int.tmod (wrap64 (a2)) t337) t354 _ A25.out).mono ?_
                          rintro e w' ⟨rfl, ⟨nd, rfl⟩⟩
                          refine ⟨_, rfl, ?_⟩
                          have p27 : 0 ≤ ((ji12) : Int) := of_decide_eq_true (by first | (with_reducible assumption) | assumption)
                          have q27 : ((ji12) : Int) < ((y350.length : Int) : Int) := of_decide_eq_true (by first | (with_reducible assumption) | assumption)
                          obtain ⟨go27, co27, eo27, gb27, gl27, cl27, HG27⟩ := Kd.R_form HO352.out (by omega)
                          (first | cases eo27 | (injection eo27 with ea_ en_ ec_; (first | subst ea_ | (injection ea_ with ea_; subst ea_)); subst ec_; clear en_))
                          have GB27 := Aside0.mk gb27
                          have GG27 := Aside0.mk HG27
                          clear gb27 gl27 HG27
                          obtain ⟨hx27_0, hf27_0⟩ := Kd.R_celln 0 HO352.out ((ji12) : Int) p27 q27
                          replace p27 := eq_true p27
                          replace q27 := eq_true q27
                          have HP46 := Kd.R_putn HO352.out ((ji12) : Int) (Go.bits .andNot .u64 (rd t326 (ji12)) t354)
                          rw [← Ny355.out] at HP46
                          have HQ46 := Aside0.mk HP46
                          clear HP46
                          refine hK.out _ _ (hHeld) (fun hHeld => ?_)
                          clear hK K
                          refine norm_ (a' := ?_) ?_ ?_
                          rotate_left
                          · show Act.put _ (some 78) _ = _
                            simp only [Act.put, List.setIfInBounds_toArray, List.set_cons_zero, List.set_cons_succ, i64_w, i32_w]
                            rfl
                          refine pure_ (i := 8) (N := some 79) (v := ?_) (a' := ?_) #[true, true, true, true, true, true, true, true, true, false, false] rfl rfl (any_of HT_.out (by kernel_rfl)) (fun _ _ _ h => h) (Or.inl ⟨by rfl, ?_⟩) ?_ ?_
                          rotate_left
                          · intro w'
                            go_simp
                            with_reducible rfl
                          rotate_left
                          · simp only [Act.put, List.setIfInBounds_toArray, List.set_cons_zero, List.set_cons_succ, i64_w, i32_w]
                            rfl
                          refine pure_ (i := 9) (N := some 80) (v := ?_) (a' := ?_) #[true, true, true, true, true, true, true, true, true, true, false] rfl rfl (any_of HT_.out (by kernel_rfl)) (fun _ _ _ h => h) (Or.inl ⟨by rfl, ?_⟩) ?_ ?_
                          rotate_left
                          · intro w'
                            go_simp
                            with_reducible rfl
                          rotate_left
                          · simp only [Act.put, List.setIfInBounds_toArray, List.set_cons_zero, List.set_cons_succ, i64_w, i32_w]
                            rfl
                          refine last_ (i := 10) (N := none) #[true, true, true, true, true, true, true, true, true, true, true] rfl rfl (one_of HT_.out (by kernel_rfl)) (by decide) (fun K hK => ?_)
                          refine skip_ (w1 := ?_) (by rfl) rfl ?_ ?_
                          rotate_left
                          · go_simp
                            rfl
                          refine hK.out _ _ ?_
                          clear hK K
                          refine done_ (done_of HT_.out (by kernel_rfl)) ?_
                          try go_wp2_with (first | ((with_reducible refine gate_callee (f := 23) rfl ?_); refine goesL_ (some 82) rfl rfl Tryd.func23 (by kernel_rfl) rfl #[.slice (some ⟨go23, 0, none⟩) y346.length co23] rfl (by (try simp only [List.map_toArray, List.map_cons, List.map_nil]); first | done | (rw [show y346.length = y341.length from (Kd.R_reads' HO343.out).1.symm] <;> rfl) | rfl | (simp only [List.length_drop, List.length_take]; rfl)) ?_; (with_reducible refine (tile_Blocks.calls k _ _ y346 t356 _ ?side1 ?side2 A28.out).mono ?_); (case side1 => refine (Kd.R_reads' (e := 27) (base := w.heap.size) (ok := fun k_ => (some k_ ≠ (.slice (some ad329) t326.length co33 : Value).ownBlock ∧ some k_ ≠ (.slice (some ⟨go27, 0, none⟩) y350.length co27 : Value).ownBlock)) (n := y341.length) (c := co23) ?_).2.2; exact (by (with_reducible repeat (first | apply Kd.R_alloc | apply Kd.R_drewN | apply Kd.R_drew)); exact (Kd.R_mono (Kd.R_far (p := ⟨go27, ((ji12) : Int).toNat, none⟩) (Kd.R_mono HO343.out (fun k_ hk => (⟨hk, fun e_ => hk.2 (by rw [e_]; rfl)⟩ : _ ∧ k_ ≠ go27))) (fun _ hk => hk.2) (.int .u64 (Go.bits .andNot .u64 (rd t326 (ji12)) t354))) (fun _ h_ => h_.1)))); (case side2 => rw [show y346.length = y341.length from (Kd.R_reads' HO343.out).1.symm]; exact (Kd.R_reads' HO343.out).2.1); rintro e w47 ⟨v357, rfl, ho0, hb⟩; refine ⟨_, rfl, ?_⟩; have n0_ := Aside0.mk (Kd.R_below (by (with_reducible repeat (first | apply Kd.R_alloc | apply Kd.R_drewN | apply Kd.R_drew)); exact (Kd.R_mono (Kd.R_far (p := ⟨go27, ((ji12) : Int).toNat, none⟩) (Kd.R_mono HO328.out (fun k_ hk => (⟨hk, fun e_ => hk.2 (by rw [e_]; rfl)⟩ : _ ∧ k_ ≠ go27))) (fun _ hk => hk.2) (.int .u64 (Go.bits .andNot .u64 (rd t326 (ji12)) t354))) (fun _ h_ => h_.1))) hb); have n1_ := Aside0.mk (Kd.R_below (by (with_reducible repeat (first | apply Kd.R_alloc | apply Kd.R_drewN | apply Kd.R_drew)); exact (Kd.R_mono (Kd.R_far (p := ⟨go27, ((ji12) : Int).toNat, none⟩) (Kd.R_mono HO343.out (fun k_ hk => (⟨hk, fun e_ => hk.2 (by rw [e_]; rfl)⟩ : _ ∧ k_ ≠ go27))) (fun _ hk => hk.2) (.int .u64 (Go.bits .andNot .u64 (rd t326 (ji12)) t354))) (fun _ h_ => h_.1))) hb); have n2_ := Aside0.mk (Kd.R_below (by (with_reducible repeat (first | apply Kd.R_alloc | apply Kd.R_drewN | apply Kd.R_drew)); exact HQ46.out) hb); have n3_ := Aside0.mk (Kd.R_lower ho0 (below_size (by repeat (first | (with_reducible first | exact HB.out | apply below_alloc | apply pw_below_drewN | apply below_drew1 | refine below_set ?_ GB27.out | refine below_set ?_ GE336.out) | exact HB.out)))); have n4_ := Aside0.mk (blk_below (g := gb336) (o := .cells #[.int .i64 t330, .int .i64 t331, .int .i64 t332, .int .i64 t333, .int .u64 t334] 29 (0, 0)) (by (with_reducible repeat (first | refine blk_drewN ?_ _ | refine blk_drew ?_ | refine blk_alloc ?_ _)); refine blk_far ?_ (by have h_ := Kd.R_ne HO352.out BK336.out (by decide); intro e_; exact h_ (by rw [e_]; rfl)) _; (with_reducible repeat (first | refine blk_drewN ?_ _ | refine blk_drew ?_ | refine blk_alloc ?_ _)); exact BK336.out) hb); have n5_ := Aside0.mk (below_step (by repeat (first | (with_reducible first | exact HB.out | apply below_alloc | apply pw_below_drewN | apply below_drew1 | refine below_set ?_ GB27.out | refine below_set ?_ GE336.out) | exact HB.out)) hb); clear HO328; clear HO343; clear HO352; clear BK336; clear HB; have HO328 := n0_; have HO343 := n1_; have HO352 := n2_; have HO358 := n3_; have BK336 := n4_; have HB := n5_; clear n0_ n1_ n2_ n3_ n4_ n5_; (try clear hb); (try clear hb2); (try clear hk); (try clear hi); (try clear ho0)) | ((with_reducible refine gate_callee (f := 23) rfl ?_); refine goesL_ (some 84) rfl rfl Tryd.func23 (by kernel_rfl) rfl #[.slice (some ⟨go27, 0, none⟩) y355.length co27] rfl (by (try simp only [List.map_toArray, List.map_cons, List.map_nil]); first | done | (rw [show y355.length = y350.length from (Kd.R_reads' HO352.out).1.symm] <;> rfl) | rfl | (simp only [List.length_drop, List.length_take]; rfl)) ?_; (with_reducible refine (tile_Blocks.calls k _ _ y355 t359 _ ?side1 ?side2 A29.out).mono ?_); (case side1 => repeat (first | exact (Kd.R_reads' HO352.out).2.2 | (with_reducible refine Kd.C_alloc ?_ _) | (with_reducible refine Kd.C_drewN ?_ _) | (with_reducible refine Kd.C_drew ?_))); (case side2 => rw [show y355.length = y350.length from (Kd.R_reads' HO352.out).1.symm]; exact (Kd.R_reads' HO352.out).2.1); rintro e w48 ⟨v360, rfl, ho0, hb⟩; refine ⟨_, rfl, ?_⟩; have n0_ := Aside0.mk (Kd.R_below (by (with_reducible repeat (first | apply Kd.R_alloc | apply Kd.R_drewN | apply Kd.R_drew)); exact HO328.out) hb); have n1_ := Aside0.mk (Kd.R_below (by (with_reducible repeat (first | apply Kd.R_alloc | apply Kd.R_drewN | apply Kd.R_drew)); exact HO343.out) hb); have n2_ := Aside0.mk (Kd.R_below (by (with_reducible repeat (first | apply Kd.R_alloc | apply Kd.R_drewN | apply Kd.R_drew)); exact HO352.out) hb); have n3_ := Aside0.mk (Kd.R_elder' (by (with_reducible repeat (first | apply Kd.R_alloc | apply Kd.R_drewN | apply Kd.R_drew)); exact HO358.out) (Kd.R_base ho0) hb); have n4_ := Aside0.mk (Kd.R_lower (Kd.R_new' ho0 (Kd.R_lt (by (with_reducible repeat (first | apply Kd.R_alloc | apply Kd.R_drewN | apply Kd.R_drew)); exact HO358.out))) (below_size (by repeat (first | (with_reducible first | exact HB.out | apply below_alloc | apply pw_below_drewN | apply below_drew1 | refine below_set ?_ GE336.out) | exact HB.out)))); have n5_ := Aside0.mk (blk_below (g := gb336) (o := .cells #[.int .i64 t330, .int .i64 t331, .int .i64 t332, .int .i64 t333, .int .u64 t334] 29 (0, 0)) (by (with_reducible repeat (first | refine blk_drewN ?_ _ | refine blk_drew ?_ | refine blk_alloc ?_ _)); exact BK336.out) hb); have n6_ := Aside0.mk (below_step (by repeat (first | (with_reducible first | exact HB.out | apply below_alloc | apply pw_below_drewN | apply below_drew1 | refine below_set ?_ GE336.out) | exact HB.out)) hb); clear HO328; clear HO343; clear HO352; clear HO358; clear BK336; clear HB; have HO328 := n0_; have HO343 := n1_; have HO352 := n2_; have HO358 := n3_; have HO361 := n4_; have BK336 := n5_; have HB := n6_; clear n0_ n1_ n2_ n3_ n4_ n5_ n6_; (try clear hb); (try clear hb2); (try clear hk); (try clear hi); (try clear ho0); obtain ⟨Ao49, co49, eo49⟩ := Kd.R_slice HO358.out; subst eo49; obtain ⟨Ao50, co50, eo50⟩ := Kd.R_slice HO361.out; subst eo50))
                          go_loopg [17, 18] k (fun kq v17 v18 w' => ∃ (x17_1 : Int) (x18_1 : Int), v17 = .int .i64 x17_1 ∧ v18 = .int .i64 x18_1 ∧ Aside0 (lockfastlaw11_TileOne.l0 kq t325 ji12 (Int.tmod (wrap64 (a2)) t337) t356 t359 x17_1 x18_1 t330 t331 t332 t333 t334 = some r) ∧ Aside0 (kq ≤ k) ∧ Aside0 (Kd.R k42 42 w' w.heap.size (fun k_ => some k_ ≠ ((.slice Ao50 t359.length co50) : Value).ownBlock) (.slice Ao49 t356.length co49) t356) ∧ Aside0 (Kd.R k42 42 w' w.heap.size (fun k_ => some k_ ≠ ((.slice Ao49 t356.length co49) : Value).ownBlock) (.slice Ao50 t359.length co50) t359) ∧ Aside0 (w'.heap[gb336]? = some (.cells #[.int .i64 t330, .int .i64 t331, .int .i64 t332, .int .i64 t333, .int .u64 t334] 29 (0, 0))) ∧ Aside0 (Below w.heap.size w w'))
                          case atStart => exact ⟨(0), (0), (by first | rfl | (simp; done) | (simp [*]; done)), (by first | rfl | (simp; done) | (simp [*]; done)), H', ⟨Nat.le_refl _⟩, ⟨by (with_reducible repeat (first | apply Kd.R_alloc | apply Kd.R_drewN | apply Kd.R_drew)); exact Kd.R_mono HO358.out (fun _ hk => hk.2)⟩, ⟨by (with_reducible repeat (first | apply Kd.R_alloc | apply Kd.R_drewN | apply Kd.R_drew)); exact Kd.R_mono HO361.out (fun _ hk => hk.2)⟩, ⟨by (with_reducible repeat (first | refine blk_drewN ?_ _ | refine blk_drew ?_ | refine blk_alloc ?_ _)); exact BK336.out⟩, ⟨by repeat (first | (with_reducible first | exact HB.out | apply below_alloc | apply pw_below_drewN | apply below_drew1 | refine below_set ?_ GE336.out) | exact HB.out)⟩⟩
                          case round =>
                            clear H'
                            try clear c1
                            try clear c2
                            try clear p2
                            try clear q2
                            try clear hx2
                            try clear c3
                            try clear p3
                            try clear q3
                            try clear hx3
                            try clear c5
                            try clear c5b0
                            try clear c5b1
                            try clear c6
                            try clear p6
                            try clear c8
                            try clear c8b0
                            try clear c8b1
                            try clear c8b2
                            try clear c13
                            try clear c13b0
                            try clear c14
                            try clear c14b0
                            try clear c15
                            try clear c16
                            try clear c17
                            try clear c17b0
                            try clear c17b1
                            try clear c19
                            try clear c19b0
                            try clear c19b1
                            try clear c20
                            try clear c22
                            try clear c22b0
                            try clear c23
                            try clear p23
                            try clear q23
                            try clear hx23
                            try clear hf23
                            try clear c24
                            try clear c25
                            try clear c26
                            try clear c26b0
                            try clear c27
                            try clear p27
                            try clear q27
                            try clear hx27
                            try clear hf27
                            try clear c30
                            try clear c30b0
                            try clear c30b1
                            try clear p32
                            try clear q32
                            try clear hx32
                            try clear p34
                            try clear q34
                            try clear hx34
                            try clear p35
                            try clear q35
                            try clear hx35
                            try clear hcz36_0
                            try clear hcz36_1
                            try clear hcz36_2
                            try clear hcz36_3
                            try clear hcz36_4
                            try clear hfz36_0
                            try clear hfz36_1
                            try clear hfz36_2
                            try clear hfz36_3
                            try clear hfz36_4
                            try clear hx23_0
                            try clear hx27_0
                            try clear hx329_0
                            try clear hx344_0
                            try clear hx353_0
                            try clear p23
                            try clear p27
                            try clear p329
                            try clear p344
                            try clear p353
                            try clear q23
                            try clear q27
                            try clear q329
                            try clear q344
                            try clear q353
                            obtain ⟨x17_1, x18_1, rfl, rfl, HA, HK1, HO_15, HO_16, BK336, HB⟩ := hrel
                            cases gk with
                            | zero => exact absurd HA.out (by simp [lockfastlaw11_TileOne.l0])
                            | succ k1 =>
                              have H := HA.out
                              clear HA
                              simp only [lockfastlaw11_TileOne.l0] at H
                              by_cases c51 : x18_1 < (t356.length : Int)
                              · rw [if_pos c51] at H
                                have c51b0 : decide (x18_1 < (t356.length : Int)) = true := decide_eq_true c51
                                clear c51
                                by_cases c52 : 0 ≤ x18_1
                                · rw [if_pos c52] at H
                                  have c52b0 : decide (0 ≤ x18_1) = true := decide_eq_true c52
                                  clear c52
                                  replace H := Option.bind_eq_some_iff.mp H
                                  obtain ⟨t363, A530, H⟩ := H
                                  replace H : (if (((rd_T42 t356 x18_1).f0) == ji12 && (((rd_T42 t356 x18_1).f1) == (Int.tmod (wrap64 (a2)) t337) && (((rd_T42 t356 x18_1).f2) == t363))) = true then (lockfastlaw11_TileOne.l0 k1 t325 ji12 (Int.tmod (wrap64 (a2)) t337) t356 t359 (wrap64 (x17_1 + 1)) (wrap64 (x18_1 + 1)) t330 t331 t332 t333 t334) else (if (wrap64 (x18_1 - x17_1)) ≥ (t359.length : Int) then (some false) else (if 0 ≤ (wrap64 (x18_1 - x17_1)) then (if (wrap64 (x18_1 - x17_1)) < (t359.length : Int) then (if (!(((rd_T42 t359 (wrap64 (x18_1 - x17_1))).f0) == ((rd_T42 t356 x18_1).f0)) || (!(((rd_T42 t359 (wrap64 (x18_1 - x17_1))).f1) == ((rd_T42 t356 x18_1).f1)) || (!(((rd_T42 t359 (wrap64 (x18_1 - x17_1))).f2) == ((rd_T42 t356 x18_1).f2))))) = true then (some false) else (lockfastlaw11_TileOne.l0 k1 t325 ji12 (Int.tmod (wrap64 (a2)) t337) t356 t359 x17_1 (wrap64 (x18_1 + 1)) t330 t331 t332 t333 t334)) else (none)) else (none)))) = some r := H
                                  have A53 := Aside0.mk A530
                                  clear A530
                                  by_cases c54 : (((rd_T42 t356 x18_1).f0) == ji12 && (((rd_T42 t356 x18_1).f1) == (Int.tmod (wrap64 (a2)) t337) && (((rd_T42 t356 x18_1).f2) == t363))) = true
                                  · rw [if_pos c54] at H
                                    have c54b0 : (((rd_T42 t356 x18_1).f0) == ji12 && (((rd_T42 t356 x18_1).f1) == (Int.tmod (wrap64 (a2)) t337) && (((rd_T42 t356 x18_1).f2) == t363))) = true := c54
                                    (try (have c54b1 : decide (((rd_T42 t356 x18_1).f0) = ji12 && (((rd_T42 t356 x18_1).f1) == (Int.tmod (wrap64 (a2)) t337) && (((rd_T42 t356 x18_1).f2) == t363))) = true := by simpa using c54))
                                    (try (have c54b2 : (((rd_T42 t356 x18_1).f0) == ji12 && (((rd_T42 t356 x18_1).f1) == (Int.tmod (wrap64 (a2)) t337) && (((rd_T42 t356 x18_1).f2) == t363))) = true := by simpa using c54))
                                    clear c54
                                    have H' := Aside0.mk H
                                    clear H
                                    try go_wp2
                                    have n0_ := Aside0.mk (Kd.R_drew HO_15.out)
                                    have n1_ := Aside0.mk (Kd.R_drew HO_16.out)
                                    have n2_ := Aside0.mk (blk_drew BK336.out)
                                    have n3_ := Aside0.mk (below_drew1 HB.out)
                                    clear HO_15
                                    clear HO_16
                                    clear BK336
                                    clear HB
                                    have HO_15 := n0_
                                    have HO_16 := n1_
                                    have BK336 := n2_
                                    have HB := n3_
                                    clear n0_ n1_ n2_ n3_
                                    have p362 : 0 ≤ (x18_1 : Int) := of_decide_eq_true (by first | (with_reducible assumption) | assumption)
                                    have q362 : x18_1 < (t356.length : Int) := of_decide_eq_true (by first | (with_reducible assumption) | assumption)
                                    obtain ⟨ad362, e362, hx362_0, hx362_1, hx362_2⟩ := at_T42 (Kd.R_reads' HO_15.out).2.2 x18_1 p362 q362
                                    cases e362
                                    replace p362 := eq_true p362
                                    replace q362 := eq_true q362
                                    refine start_ (n := 11) (S := fun w' => w'.cell? ⟨gb336, 0, none⟩ = some (.int .i64 t330) ∧ w'.cell? ⟨gb336, 1, none⟩ = some (.int .i64 t331) ∧ w'.cell? ⟨gb336, 2, none⟩ = some (.int .i64 t332) ∧ w'.cell? ⟨gb336, 3, none⟩ = some (.int .i64 t333) ∧ w'.cell? ⟨gb336, 4, none⟩ = some (.int .u64 t334) ∧ w'.cell? (ad362.add ((x18_1).toNat * 3)) = some (.int .i64 ((rd_T42 t356 x18_1).f0)) ∧ w'.cell? ⟨(ad362.add ((x18_1).toNat * 3)).block, (ad362.add ((x18_1).toNat * 3)).off + 1, none⟩ = some (.int .i64 ((rd_T42 t356 x18_1).f1)) ∧ w'.cell? ⟨(ad362.add ((x18_1).toNat * 3)).block, (ad362.add ((x18_1).toNat * 3)).off + 2, none⟩ = some (.int .i64 ((rd_T42 t356 x18_1).f2))) (ds := []) #[false, false, false, false, false, false, false, false, false, false, false] (by kernel_rfl) rfl rfl ⟨(blk_cell BK336.out 0).trans rfl, (blk_cell BK336.out 1).trans rfl, (blk_cell BK336.out 2).trans rfl, (blk_cell BK336.out 3).trans rfl, (blk_cell BK336.out 4).trans rfl, hx362_0, hx362_1, hx362_2⟩ (fun hHeld => ?_); refine with_tabW lockfastlaw11_TileOne.tab26 lockfastlaw11_TileOne.bits26 (fun HT_ HW_ => ?_)
                                    generalize wr.drew = w55 at HO_15 HO_16 BK336 HB hx362_0 hx362_1 hx362_2 hHeld ⊢
                                    refine pure_ (i := 0) (N := some 97) (v := ?_) (a' := ?_) #[true, false, false, false, false, false, false, false, false, false, false] rfl rfl (any_of HT_.out (by kernel_rfl)) (fun _ _ _ h => h) (Or.inl ⟨by rfl, ?_⟩) ?_ ?_
                                    rotate_left
                                    · intro w'
                                      go_simp
                                      with_reducible rfl
                                    rotate_left
                                    · simp only [Act.put, List.setIfInBounds_toArray, List.set_cons_zero, List.set_cons_succ, i64_w, i32_w]
                                      rfl
                                    refine pure_ (i := 1) (N := some 98) (v := ?_) (a' := ?_) #[true, true, false, false, false, false, false, false, false, false, false] rfl rfl (any_of HT_.out (by kernel_rfl)) (fun _ _ _ h => h) (Or.inl ⟨by rfl, ?_⟩) ?_ ?_
                                    rotate_left
                                    · intro w'
                                      go_simp
                                      with_reducible rfl
                                    rotate_left
                                    · simp only [Act.put, List.setIfInBounds_toArray, List.set_cons_zero, List.set_cons_succ, i64_w, i32_w]
                                      rfl
                                    refine pure_ (i := 2) (N := some 99) (v := ?_) (a' := ?_) #[true, true, true, false, false, false, false, false, false, false, false] rfl rfl (any_of HT_.out (by kernel_rfl)) (fun _ _ _ h => h) (Or.inl ⟨by rfl, ?_⟩) ?_ ?_
                                    rotate_left
                                    · intro w'
                                      go_simp
                                      with_reducible rfl
                                    rotate_left
                                    · simp only [Act.put, List.setIfInBounds_toArray, List.set_cons_zero, List.set_cons_succ, i64_w, i32_w]
                                      rfl
                                    refine pure_ (i := 4) (N := some 101) (v := ?_) (a' := ?_) #[true, true, true, false, true, false, false, false, false, false, false] rfl rfl (any_of HT_.out (by kernel_rfl)) (fun _ _ _ h => h) (Or.inl ⟨by rfl, ?_⟩) ?_ ?_
                                    rotate_left
                                    · intro w'
                                      go_simp
                                      with_reducible rfl
                                    rotate_left
                                    · simp only [Act.put, List.setIfInBounds_toArray, List.set_cons_zero, List.set_cons_succ, i64_w, i32_w]
                                      rfl
                                    refine pure_ (i := 5) (N := some 102) (v := ?_) (a' := ?_) #[true, true, true, false, true, true, false, false, false, false, false] rfl rfl (any_of HT_.out (by kernel_rfl)) (fun _ _ _ h => h) (Or.inl ⟨by rfl, ?_⟩) ?_ ?_
                                    rotate_left
                                    · intro w'
                                      go_simp
                                      with_reducible rfl
                                    rotate_left
                                    · simp only [Act.put, List.setIfInBounds_toArray, List.set_cons_zero, List.set_cons_succ, i64_w, i32_w]
                                      rfl
                                    refine pure_ (i := 6) (N := some 103) (v := ?_) (a' := ?_) #[true, true, true, false, true, true, true, false, false, false, false] rfl rfl (any_of HT_.out (by kernel_rfl)) (fun _ _ _ h => h) (Or.inl ⟨by rfl, ?_⟩) ?_ ?_
                                    rotate_left
                                    · intro w'
                                      go_simp
                                      with_reducible rfl
                                    rotate_left
                                    · simp only [Act.put, List.setIfInBounds_toArray, List.set_cons_zero, List.set_cons_succ, i64_w, i32_w]
                                      rfl
                                    refine take_ (i := 3) (N := some 100) (v := ?_) (a' := ?_) #[true, true, true, true, true, true, true, false, false, false, false] rfl rfl (take_ofW HT_.out HW_.out (by kernel_rfl)) (fun _ _ _ h => h) (Or.inl ⟨by rfl, ?_⟩) hHeld ?_ ?_
                                    rotate_left
                                    · rintro w' ⟨s0, s1, s2, s3, s4, s5, s6, s7⟩
                                      go_simp
                                      with_reducible rfl
                                    rotate_left
                                    · simp only [Act.put, List.setIfInBounds_toArray, List.set_cons_zero, List.set_cons_succ, i64_w, i32_w]
                                      rfl
                                    refine take_ (i := 7) (N := some 104) (v := ?_) (a' := ?_) #[true, true, true, true, true, true, true, true, false, false, false] rfl rfl (take_ofW HT_.out HW_.out (by kernel_rfl)) (fun _ _ _ h => h) (Or.inl ⟨by rfl, ?_⟩) hHeld ?_ ?_
                                    rotate_left
                                    · rintro w' ⟨s0, s1, s2, s3, s4, s5, s6, s7⟩
                                      go_simp
                                      with_reducible rfl
                                    rotate_left
                                    · simp only [Act.put, List.setIfInBounds_toArray, List.set_cons_zero, List.set_cons_succ, i64_w, i32_w]
                                      rfl
                                    refine one_ (i := 8) (N := some 105) #[true, true, true, true, true, true, true, true, true, false, false] rfl rfl (one_of HT_.out (by kernel_rfl)) (by decide) (fun K hK => ?_)
                                    refine goes_ Tryd.func28 (by kernel_rfl) rfl #[.int .i64 t331] (by rfl) rfl rfl (by (try simp only [List.map_toArray, List.map_cons, List.map_nil]); first | done | rfl | (simp only [List.length_drop, List.length_take]; rfl)) ?_
                                    with_reducible refine (lockfastref09_Block.calls t331 t363 _ A53.out).mono ?_
                                    rintro e w' ⟨rfl, ⟨nd, rfl⟩⟩
                                    refine ⟨_, rfl, ?_⟩
                                    refine hK.out _ _ ⟨(blk_cell BK336.out 0).trans rfl, (blk_cell BK336.out 1).trans rfl, (blk_cell BK336.out 2).trans rfl, (blk_cell BK336.out 3).trans rfl, (blk_cell BK336.out 4).trans rfl, hHeld.2.2.2.2.2.1, hHeld.2.2.2.2.2.2.1, hHeld.2.2.2.2.2.2.2⟩ (fun hHeld => ?_)
                                    clear hK K
                                    refine norm_ (a' := ?_) ?_ ?_
                                    rotate_left
                                    · show Act.put _ (some 105) _ = _
                                      simp only [Act.put, List.setIfInBounds_toArray, List.set_cons_zero, List.set_cons_succ, i64_w, i32_w]
                                      rfl
                                    refine pure_ (i := 9) (N := some 106) (v := ?_) (a' := ?_) #[true, true, true, true, true, true, true, true, true, true, false] rfl rfl (any_of HT_.out (by kernel_rfl)) (fun _ _ _ h => h) (Or.inl ⟨by rfl, ?_⟩) ?_ ?_
                                    rotate_left
                                    · intro w'
                                      go_simp
                                      with_reducible rfl
                                    rotate_left
                                    · simp only [Act.put, List.setIfInBounds_toArray, List.set_cons_zero, List.set_cons_succ, i64_w, i32_w]
                                      rfl
                                    refine pure_ (i := 10) (N := some 107) (v := ?_) (a' := ?_) #[true, true, true, true, true, true, true, true, true, true, true] rfl rfl (any_of HT_.out (by kernel_rfl)) (fun _ _ _ h => h) (Or.inl ⟨by rfl, ?_⟩) ?_ ?_
                                    rotate_left
                                    · intro w'
                                      go_simp
                                      with_reducible rfl
                                    rotate_left
                                    · simp only [Act.put, List.setIfInBounds_toArray, List.set_cons_zero, List.set_cons_succ, i64_w, i32_w]
                                      rfl
                                    refine done_ (done_of HT_.out (by kernel_rfl)) ?_
                                    try go_wp2
                                    go_roundg k1
                                    case measure => have := HK1.out; omega
                                    case rel => exact ⟨(wrap64 (x17_1 + 1)), (wrap64 (x18_1 + 1)), (by first | rfl | (simp; done) | (simp [*]; done)), (by first | rfl | (simp; done) | (simp [*]; done)), H', ⟨by have := HK1.out; omega⟩, ⟨by (with_reducible repeat (first | apply Kd.R_alloc | apply Kd.R_drewN | apply Kd.R_drew)); exact HO_15.out⟩, ⟨by (with_reducible repeat (first | apply Kd.R_alloc | apply Kd.R_drewN | apply Kd.R_drew)); exact HO_16.out⟩, ⟨by (with_reducible repeat (first | refine blk_drewN ?_ _ | refine blk_drew ?_ | refine blk_alloc ?_ _)); exact BK336.out⟩, ⟨by repeat (first | (with_reducible first | exact HB.out | apply below_alloc | apply pw_below_drewN | apply below_drew1 | refine below_set ?_ GE336.out) | exact HB.out)⟩⟩
                                  · rw [if_neg c54] at H
                                    have c54b0 : (((rd_T42 t356 x18_1).f0) == ji12 && (((rd_T42 t356 x18_1).f1) == (Int.tmod (wrap64 (a2)) t337) && (((rd_T42 t356 x18_1).f2) == t363))) = false := by simpa using c54
                                    (try (have c54b1 : decide (((rd_T42 t356 x18_1).f0) = ji12 && (((rd_T42 t356 x18_1).f1) == (Int.tmod (wrap64 (a2)) t337) && (((rd_T42 t356 x18_1).f2) == t363))) = false := by simpa using c54))
                                    (try (have c54b2 : (((rd_T42 t356 x18_1).f0) == ji12 && (((rd_T42 t356 x18_1).f1) == (Int.tmod (wrap64 (a2)) t337) && (((rd_T42 t356 x18_1).f2) == t363))) = false := by simpa using c54))
                                    (try (have c54b3 : ¬ (((rd_T42 t356 x18_1).f0) = ji12 && (((rd_T42 t356 x18_1).f1) == (Int.tmod (wrap64 (a2)) t337) && (((rd_T42 t356 x18_1).f2) == t363))) := by simpa using c54))
                                    clear c54
                                    by_cases c56 : (wrap64 (x18_1 - x17_1)) ≥ (t359.length : Int)
                                    · rw [if_pos c56] at H
                                      have c56b0 : decide ((t359.length : Int) ≤ (wrap64 (x18_1 - x17_1))) = true := decide_eq_true c56
                                      clear c56
                                      obtain rfl := Option.some.inj H
                                      try go_wp2
                                      have n0_ := Aside0.mk (Kd.R_drew HO_15.out)
                                      have n1_ := Aside0.mk (Kd.R_drew HO_16.out)
                                      have n2_ := Aside0.mk (blk_drew BK336.out)
                                      have n3_ := Aside0.mk (below_drew1 HB.out)
                                      clear HO_15
                                      clear HO_16
                                      clear BK336
                                      clear HB
                                      have HO_15 := n0_
                                      have HO_16 := n1_
                                      have BK336 := n2_
                                      have HB := n3_
                                      clear n0_ n1_ n2_ n3_
                                      have p362 : 0 ≤ (x18_1 : Int) := of_decide_eq_true (by first | (with_reducible assumption) | assumption)
                                      have q362 : x18_1 < (t356.length : Int) := of_decide_eq_true (by first | (with_reducible assumption) | assumption)
                                      obtain ⟨ad362, e362, hx362_0, hx362_1, hx362_2⟩ := at_T42 (Kd.R_reads' HO_15.out).2.2 x18_1 p362 q362
                                      cases e362
                                      replace p362 := eq_true p362
                                      replace q362 := eq_true q362
                                      refine start_ (n := 11) (S := fun w' => w'.cell? ⟨gb336, 0, none⟩ = some (.int .i64 t330) ∧ w'.cell? ⟨gb336, 1, none⟩ = some (.int .i64 t331) ∧ w'.cell? ⟨gb336, 2, none⟩ = some (.int .i64 t332) ∧ w'.cell? ⟨gb336, 3, none⟩ = some (.int .i64 t333) ∧ w'.cell? ⟨gb336, 4, none⟩ = some (.int .u64 t334) ∧ w'.cell? (ad362.add ((x18_1).toNat * 3)) = some (.int .i64 ((rd_T42 t356 x18_1).f0)) ∧ w'.cell? ⟨(ad362.add ((x18_1).toNat * 3)).block, (ad362.add ((x18_1).toNat * 3)).off + 1, none⟩ = some (.int .i64 ((rd_T42 t356 x18_1).f1)) ∧ w'.cell? ⟨(ad362.add ((x18_1).toNat * 3)).block, (ad362.add ((x18_1).toNat * 3)).off + 2, none⟩ = some (.int .i64 ((rd_T42 t356 x18_1).f2))) (ds := []) #[false, false, false, false, false, false, false, false, false, false, false] (by kernel_rfl) rfl rfl ⟨(blk_cell BK336.out 0).trans rfl, (blk_cell BK336.out 1).trans rfl, (blk_cell BK336.out 2).trans rfl, (blk_cell BK336.out 3).trans rfl, (blk_cell BK336.out 4).trans rfl, hx362_0, hx362_1, hx362_2⟩ (fun hHeld => ?_); refine with_tabW lockfastlaw11_TileOne.tab26 lockfastlaw11_TileOne.bits26 (fun HT_ HW_ => ?_)
                                      generalize wr.drew = w57 at HO_15 HO_16 BK336 HB hx362_0 hx362_1 hx362_2 hHeld ⊢
                                      refine pure_ (i := 0) (N := some 97) (v := ?_) (a' := ?_) #[true, false, false, false, false, false, false, false, false, false, false] rfl rfl (any_of HT_.out (by kernel_rfl)) (fun _ _ _ h => h) (Or.inl ⟨by rfl, ?_⟩) ?_ ?_
                                      rotate_left
                                      · intro w'
                                        go_simp
                                        with_reducible rfl
                                      rotate_left
                                      · simp only [Act.put, List.setIfInBounds_toArray, List.set_cons_zero, List.set_cons_succ, i64_w, i32_w]
                                        rfl
                                      refine pure_ (i := 1) (N := some 98) (v := ?_) (a' := ?_) #[true, true, false, false, false, false, false, false, false, false, false] rfl rfl (any_of HT_.out (by kernel_rfl)) (fun _ _ _ h => h) (Or.inl ⟨by rfl, ?_⟩) ?_ ?_
                                      rotate_left
                                      · intro w'
                                        go_simp
                                        with_reducible rfl
                                      rotate_left
                                      · simp only [Act.put, List.setIfInBounds_toArray, List.set_cons_zero, List.set_cons_succ, i64_w, i32_w]
                                        rfl
                                      refine pure_ (i := 2) (N := some 99) (v := ?_) (a' := ?_) #[true, true, true, false, false, false, false, false, false, false, false] rfl rfl (any_of HT_.out (by kernel_rfl)) (fun _ _ _ h => h) (Or.inl ⟨by rfl, ?_⟩) ?_ ?_
                                      rotate_left
                                      · intro w'
                                        go_simp
                                        with_reducible rfl
                                      rotate_left
                                      · simp only [Act.put, List.setIfInBounds_toArray, List.set_cons_zero, List.set_cons_succ, i64_w, i32_w]
                                        rfl
                                      refine pure_ (i := 4) (N := some 101) (v := ?_) (a' := ?_) #[true, true, true, false, true, false, false, false, false, false, false] rfl rfl (any_of HT_.out (by kernel_rfl)) (fun _ _ _ h => h) (Or.inl ⟨by rfl, ?_⟩) ?_ ?_
                                      rotate_left
                                      · intro w'
                                        go_simp
                                        with_reducible rfl
                                      rotate_left
                                      · simp only [Act.put, List.setIfInBounds_toArray, List.set_cons_zero, List.set_cons_succ, i64_w, i32_w]
                                        rfl
                                      refine pure_ (i := 5) (N := some 102) (v := ?_) (a' := ?_) #[true, true, true, false, true, true, false, false, false, false, false] rfl rfl (any_of HT_.out (by kernel_rfl)) (fun _ _ _ h => h) (Or.inl ⟨by rfl, ?_⟩) ?_ ?_
                                      rotate_left
                                      · intro w'
                                        go_simp
                                        with_reducible rfl
                                      rotate_left
                                      · simp only [Act.put, List.setIfInBounds_toArray, List.set_cons_zero, List.set_cons_succ, i64_w, i32_w]
                                        rfl
                                      refine pure_ (i := 6) (N := some 103) (v := ?_) (a' := ?_) #[true, true, true, false, true, true, true, false, false, false, false] rfl rfl (any_of HT_.out (by kernel_rfl)) (fun _ _ _ h => h) (Or.inl ⟨by rfl, ?_⟩) ?_ ?_
                                      rotate_left
                                      · intro w'
                                        go_simp
                                        with_reducible rfl
                                      rotate_left
                                      · simp only [Act.put, List.setIfInBounds_toArray, List.set_cons_zero, List.set_cons_succ, i64_w, i32_w]
                                        rfl
                                      refine take_ (i := 3) (N := some 100) (v := ?_) (a' := ?_) #[true, true, true, true, true, true, true, false, false, false, false] rfl rfl (take_ofW HT_.out HW_.out (by kernel_rfl)) (fun _ _ _ h => h) (Or.inl ⟨by rfl, ?_⟩) hHeld ?_ ?_
                                      rotate_left
                                      · rintro w' ⟨s0, s1, s2, s3, s4, s5, s6, s7⟩
                                        go_simp
                                        with_reducible rfl
                                      rotate_left
                                      · simp only [Act.put, List.setIfInBounds_toArray, List.set_cons_zero, List.set_cons_succ, i64_w, i32_w]
                                        rfl
                                      refine take_ (i := 7) (N := some 104) (v := ?_) (a' := ?_) #[true, true, true, true, true, true, true, true, false, false, false] rfl rfl (take_ofW HT_.out HW_.out (by kernel_rfl)) (fun _ _ _ h => h) (Or.inl ⟨by rfl, ?_⟩) hHeld ?_ ?_
                                      rotate_left
                                      · rintro w' ⟨s0, s1, s2, s3, s4, s5, s6, s7⟩
                                        go_simp
                                        with_reducible rfl
                                      rotate_left
                                      · simp only [Act.put, List.setIfInBounds_toArray, List.set_cons_zero, List.set_cons_succ, i64_w, i32_w]
                                        rfl
                                      refine one_ (i := 8) (N := some 105) #[true, true, true, true, true, true, true, true, true, false, false] rfl rfl (one_of HT_.out (by kernel_rfl)) (by decide) (fun K hK => ?_)
                                      refine goes_ Tryd.func28 (by kernel_rfl) rfl #[.int .i64 t331] (by rfl) rfl rfl (by (try simp only [List.map_toArray, List.map_cons, List.map_nil]); first | done | rfl | (simp only [List.length_drop, List.length_take]; rfl)) ?_
                                      with_reducible refine (lockfastref09_Block.calls t331 t363 _ A53.out).mono ?_
                                      rintro e w' ⟨rfl, ⟨nd, rfl⟩⟩
                                      refine ⟨_, rfl, ?_⟩
                                      refine hK.out _ _ ⟨(blk_cell BK336.out 0).trans rfl, (blk_cell BK336.out 1).trans rfl, (blk_cell BK336.out 2).trans rfl, (blk_cell BK336.out 3).trans rfl, (blk_cell BK336.out 4).trans rfl, hHeld.2.2.2.2.2.1, hHeld.2.2.2.2.2.2.1, hHeld.2.2.2.2.2.2.2⟩ (fun hHeld => ?_)
                                      clear hK K
                                      refine norm_ (a' := ?_) ?_ ?_
                                      rotate_left
                                      · show Act.put _ (some 105) _ = _
                                        simp only [Act.put, List.setIfInBounds_toArray, List.set_cons_zero, List.set_cons_succ, i64_w, i32_w]
                                        rfl
                                      refine pure_ (i := 9) (N := some 106) (v := ?_) (a' := ?_) #[true, true, true, true, true, true, true, true, true, true, false] rfl rfl (any_of HT_.out (by kernel_rfl)) (fun _ _ _ h => h) (Or.inl ⟨by rfl, ?_⟩) ?_ ?_
                                      rotate_left
                                      · intro w'
                                        go_simp
                                        with_reducible rfl
                                      rotate_left
                                      · simp only [Act.put, List.setIfInBounds_toArray, List.set_cons_zero, List.set_cons_succ, i64_w, i32_w]
                                        rfl
                                      refine pure_ (i := 10) (N := some 107) (v := ?_) (a' := ?_) #[true, true, true, true, true, true, true, true, true, true, true] rfl rfl (any_of HT_.out (by kernel_rfl)) (fun _ _ _ h => h) (Or.inl ⟨by rfl, ?_⟩) ?_ ?_
                                      rotate_left
                                      · intro w'
                                        go_simp
                                        with_reducible rfl
                                      rotate_left
                                      · simp only [Act.put, List.setIfInBounds_toArray, List.set_cons_zero, List.set_cons_succ, i64_w, i32_w]
                                        rfl
                                      refine done_ (done_of HT_.out (by kernel_rfl)) ?_
                                      try go_wp2
                                      (try (rw [drewN_self w57]; generalize hq_ : World.drewN w57 _ = w57; have n0_ : Aside0 (Kd.R k42 42 w57 w.heap.size (fun k_ => some k_ ≠ (.slice Ao50 t359.length co50 : Value).ownBlock) (.slice (some ad362) t356.length co49) t356) := ⟨by rw [← hq_]; exact (by (with_reducible repeat (first | apply Kd.R_alloc | apply Kd.R_drewN | apply Kd.R_drew)); exact HO_15.out)⟩; have n1_ : Aside0 (Kd.R k42 42 w57 w.heap.size (fun k_ => some k_ ≠ (.slice (some ad362) t356.length co49 : Value).ownBlock) (.slice Ao50 t359.length co50) t359) := ⟨by rw [← hq_]; exact (by (with_reducible repeat (first | apply Kd.R_alloc | apply Kd.R_drewN | apply Kd.R_drew)); exact HO_16.out)⟩; have n2_ : Aside0 (w57.heap[gb336]? = some (.cells #[.int .i64 t330, .int .i64 t331, .int .i64 t332, .int .i64 t333, .int .u64 t334] 29 (0, 0))) := ⟨by rw [← hq_]; exact (by (with_reducible repeat (first | refine blk_drewN ?_ _ | refine blk_drew ?_ | refine blk_alloc ?_ _)); exact BK336.out)⟩; have n3_ : Aside0 (Below w.heap.size w w57) := ⟨by rw [← hq_]; exact (by repeat (first | (with_reducible first | exact HB.out | apply below_alloc | apply pw_below_drewN | apply below_drew1 | refine below_set ?_ GE336.out) | exact HB.out))⟩; clear HO_15 HO_16 BK336 HB hq_; have HO_15 := n0_; have HO_16 := n1_; have BK336 := n2_; have HB := n3_; clear n0_ n1_ n2_ n3_))
                                      have n0_ := Aside0.mk (Kd.R_drew HO_15.out)
                                      have n1_ := Aside0.mk (Kd.R_drew HO_16.out)
                                      have n2_ := Aside0.mk (blk_drew BK336.out)
                                      have n3_ := Aside0.mk (below_drew1 HB.out)
                                      clear HO_15
                                      clear HO_16
                                      clear BK336
                                      clear HB
                                      have HO_15 := n0_
                                      have HO_16 := n1_
                                      have BK336 := n2_
                                      have HB := n3_
                                      clear n0_ n1_ n2_ n3_
                                      refine start_ (n := 19) (S := fun w' => True) (ds := []) #[false, false, false, false, false, false, false, false, false, false, false, false, false, false, false, false, false, false, false] (by kernel_rfl) rfl rfl trivial (fun hHeld => ?_); refine with_tabW lockfastlaw11_TileOne.tab28 lockfastlaw11_TileOne.bits28 (fun HT_ HW_ => ?_)
                                      generalize w57.drew = w58 at HO_15 HO_16 BK336 HB hHeld ⊢
                                      refine pure_ (i := 0) (N := some 110) (v := ?_) (a' := ?_) #[true, false, false, false, false, false, false, false, false, false, false, false, false, false, false, false, false, false, false] rfl rfl (any_of HT_.out (by kernel_rfl)) (fun _ _ _ h => h) (Or.inl ⟨by rfl, ?_⟩) ?_ ?_
                                      rotate_left
                                      · intro w'
                                        go_simp
                                        with_reducible rfl
                                      rotate_left
                                      · simp only [Act.put, List.setIfInBounds_toArray, List.set_cons_zero, List.set_cons_succ, i64_w, i32_w]
                                        rfl
                                      refine pure_ (i := 1) (N := some 111) (v := ?_) (a' := ?_) #[true, true, false, false, false, false, false, false, false, false, false, false, false, false, false, false, false, false, false] rfl rfl (any_of HT_.out (by kernel_rfl)) (fun _ _ _ h => h) (Or.inl ⟨by rfl, ?_⟩) ?_ ?_
                                      rotate_left
                                      · intro w'
                                        go_simp
                                        with_reducible rfl
                                      rotate_left
                                      · simp only [Act.put, List.setIfInBounds_toArray, List.set_cons_zero, List.set_cons_succ, i64_w, i32_w]
                                        rfl
                                      refine pure_ (i := 2) (N := some 112) (v := ?_) (a' := ?_) #[true, true, true, false, false, false, false, false, false, false, false, false, false, false, false, false, false, false, false] rfl rfl (any_of HT_.out (by kernel_rfl)) (fun _ _ _ h => h) (Or.inl ⟨by rfl, ?_⟩) ?_ ?_
                                      rotate_left
                                      · intro w'
                                        go_simp
                                        with_reducible rfl
                                      rotate_left
                                      · simp only [Act.put, List.setIfInBounds_toArray, List.set_cons_zero, List.set_cons_succ, i64_w, i32_w]
                                        rfl
                                      refine pure_ (i := 3) (N := some 113) (v := ?_) (a' := ?_) #[true, true, true, true, false, false, false, false, false, false, false, false, false, false, false, false, false, false, false] rfl rfl (any_of HT_.out (by kernel_rfl)) (fun _ _ _ h => h) (Or.inl ⟨by rfl, ?_⟩) ?_ ?_
                                      rotate_left
                                      · intro w'
                                        go_simp
                                        with_reducible rfl
                                      rotate_left
                                      · simp only [Act.put, List.setIfInBounds_toArray, List.set_cons_zero, List.set_cons_succ, i64_w, i32_w]
                                        rfl
                                      refine pure_ (i := 4) (N := some 114) (v := ?_) (a' := ?_) #[true, true, true, true, true, false, false, false, false, false, false, false, false, false, false, false, false, false, false] rfl rfl (any_of HT_.out (by kernel_rfl)) (fun _ _ _ h => h) (Or.inl ⟨by rfl, ?_⟩) ?_ ?_
                                      rotate_left
                                      · intro w'
                                        go_simp
                                        with_reducible rfl
                                      rotate_left
                                      · simp only [Act.put, List.setIfInBounds_toArray, List.set_cons_zero, List.set_cons_succ, i64_w, i32_w]
                                        rfl
                                      refine pure_ (i := 5) (N := some 115) (v := ?_) (a' := ?_) #[true, true, true, true, true, true, false, false, false, false, false, false, false, false, false, false, false, false, false] rfl rfl (any_of HT_.out (by kernel_rfl)) (fun _ _ _ h => h) (Or.inl ⟨by rfl, ?_⟩) ?_ ?_
                                      rotate_left
                                      · intro w'
                                        go_simp
                                        with_reducible rfl
                                      rotate_left
                                      · simp only [Act.put, List.setIfInBounds_toArray, List.set_cons_zero, List.set_cons_succ, i64_w, i32_w]
                                        rfl
                                      refine pure_ (i := 6) (N := some 116) (v := ?_) (a' := ?_) #[true, true, true, true, true, true, true, false, false, false, false, false, false, false, false, false, false, false, false] rfl rfl (any_of HT_.out (by kernel_rfl)) (fun _ _ _ h => h) (Or.inl ⟨by rfl, ?_⟩) ?_ ?_
                                      rotate_left
                                      · intro w'
                                        go_simp
                                        with_reducible rfl
                                      rotate_left
                                      · simp only [Act.put, List.setIfInBounds_toArray, List.set_cons_zero, List.set_cons_succ, i64_w, i32_w]
                                        rfl
                                      refine pure_ (i := 7) (N := some 117) (v := undef) (a' := ?_) #[true, true, true, true, true, true, true, true, false, false, false, false, false, false, false, false, false, false, false] rfl rfl (any_of HT_.out (by kernel_rfl)) (fun _ _ _ h => h) (Or.inr ⟨by rfl, rfl⟩) ?_ ?_
                                      rotate_left
                                      · simp only [Act.put, List.setIfInBounds_toArray, List.set_cons_zero, List.set_cons_succ, i64_w, i32_w]
                                        rfl
                                      refine pure_ (i := 8) (N := some 118) (v := undef) (a' := ?_) #[true, true, true, true, true, true, true, true, true, false, false, false, false, false, false, false, false, false, false] rfl rfl (any_of HT_.out (by kernel_rfl)) (fun _ _ _ h => h) (Or.inr ⟨by rfl, rfl⟩) ?_ ?_
                                      rotate_left
                                      · simp only [Act.put, List.setIfInBounds_toArray, List.set_cons_zero, List.set_cons_succ, i64_w, i32_w]
                                        rfl
                                      refine pure_ (i := 9) (N := some 119) (v := undef) (a' := ?_) #[true, true, true, true, true, true, true, true, true, true, false, false, false, false, false, false, false, false, false] rfl rfl (any_of HT_.out (by kernel_rfl)) (fun _ _ _ h => h) (Or.inr ⟨by rfl, rfl⟩) ?_ ?_
                                      rotate_left
                                      · simp only [Act.put, List.setIfInBounds_toArray, List.set_cons_zero, List.set_cons_succ, i64_w, i32_w]
                                        rfl
                                      refine pure_ (i := 10) (N := some 120) (v := undef) (a' := ?_) #[true, true, true, true, true, true, true, true, true, true, true, false, false, false, false, false, false, false, false] rfl rfl (any_of HT_.out (by kernel_rfl)) (fun _ _ _ h => h) (Or.inr ⟨by rfl, rfl⟩) ?_ ?_
                                      rotate_left
                                      · simp only [Act.put, List.setIfInBounds_toArray, List.set_cons_zero, List.set_cons_succ, i64_w, i32_w]
                                        rfl
                                      refine pure_ (i := 11) (N := some 121) (v := undef) (a' := ?_) #[true, true, true, true, true, true, true, true, true, true, true, true, false, false, false, false, false, false, false] rfl rfl (any_of HT_.out (by kernel_rfl)) (fun _ _ _ h => h) (Or.inr ⟨by rfl, rfl⟩) ?_ ?_
                                      rotate_left
                                      · simp only [Act.put, List.setIfInBounds_toArray, List.set_cons_zero, List.set_cons_succ, i64_w, i32_w]
                                        rfl
                                      refine pure_ (i := 12) (N := some 122) (v := undef) (a' := ?_) #[true, true, true, true, true, true, true, true, true, true, true, true, true, false, false, false, false, false, false] rfl rfl (any_of HT_.out (by kernel_rfl)) (fun _ _ _ h => h) (Or.inr ⟨by rfl, rfl⟩) ?_ ?_
                                      rotate_left
                                      · simp only [Act.put, List.setIfInBounds_toArray, List.set_cons_zero, List.set_cons_succ, i64_w, i32_w]
                                        rfl
                                      refine pure_ (i := 13) (N := some 123) (v := undef) (a' := ?_) #[true, true, true, true, true, true, true, true, true, true, true, true, true, true, false, false, false, false, false] rfl rfl (any_of HT_.out (by kernel_rfl)) (fun _ _ _ h => h) (Or.inr ⟨by rfl, rfl⟩) ?_ ?_
                                      rotate_left
                                      · simp only [Act.put, List.setIfInBounds_toArray, List.set_cons_zero, List.set_cons_succ, i64_w, i32_w]
                                        rfl
                                      refine pure_ (i := 14) (N := some 124) (v := undef) (a' := ?_) #[true, true, true, true, true, true, true, true, true, true, true, true, true, true, true, false, false, false, false] rfl rfl (any_of HT_.out (by kernel_rfl)) (fun _ _ _ h => h) (Or.inr ⟨by rfl, rfl⟩) ?_ ?_
                                      rotate_left
                                      · simp only [Act.put, List.setIfInBounds_toArray, List.set_cons_zero, List.set_cons_succ, i64_w, i32_w]
                                        rfl
                                      refine pure_ (i := 15) (N := some 125) (v := undef) (a' := ?_) #[true, true, true, true, true, true, true, true, true, true, true, true, true, true, true, true, false, false, false] rfl rfl (any_of HT_.out (by kernel_rfl)) (fun _ _ _ h => h) (Or.inr ⟨by rfl, rfl⟩) ?_ ?_
                                      rotate_left
                                      · simp only [Act.put, List.setIfInBounds_toArray, List.set_cons_zero, List.set_cons_succ, i64_w, i32_w]
                                        rfl
                                      refine pure_ (i := 16) (N := some 126) (v := undef) (a' := ?_) #[true, true, true, true, true, true, true, true, true, true, true, true, true, true, true, true, true, false, false] rfl rfl (any_of HT_.out (by kernel_rfl)) (fun _ _ _ h => h) (Or.inr ⟨by rfl, rfl⟩) ?_ ?_
                                      rotate_left
                                      · simp only [Act.put, List.setIfInBounds_toArray, List.set_cons_zero, List.set_cons_succ, i64_w, i32_w]
                                        rfl
                                      refine pure_ (i := 17) (N := some 127) (v := undef) (a' := ?_) #[true, true, true, true, true, true, true, true, true, true, true, true, true, true, true, true, true, true, false] rfl rfl (any_of HT_.out (by kernel_rfl)) (fun _ _ _ h => h) (Or.inr ⟨by rfl, rfl⟩) ?_ ?_
                                      rotate_left
                                      · simp only [Act.put, List.setIfInBounds_toArray, List.set_cons_zero, List.set_cons_succ, i64_w, i32_w]
                                        rfl
                                      refine pure_ (i := 18) (N := some 128) (v := ?_) (a' := ?_) #[true, true, true, true, true, true, true, true, true, true, true, true, true, true, true, true, true, true, true] rfl rfl (any_of HT_.out (by kernel_rfl)) (fun _ _ _ h => h) (Or.inl ⟨by rfl, ?_⟩) ?_ ?_
                                      rotate_left
                                      · intro w'
                                        go_simp
                                        with_reducible rfl
                                      rotate_left
                                      · simp only [Act.put, List.setIfInBounds_toArray, List.set_cons_zero, List.set_cons_succ, i64_w, i32_w]
                                        rfl
                                      refine done_ (done_of HT_.out (by kernel_rfl)) ?_
                                      try go_wp2
                                      go_ret
                                      exact ⟨by first | rfl | (simp [errW_none, errW_some] <;> rfl) | (simp only [← hji12]; first | rfl | (simp [errW_none, errW_some] <;> rfl)) | (simp [*, errW_none, errW_some] <;> rfl), by repeat (first | (with_reducible first | exact HB.out | apply below_alloc | apply pw_below_drewN | apply below_drew1 | refine below_set ?_ GE336.out) | exact HB.out)⟩
                                    · rw [if_neg c56] at H
                                      have c56b0 : decide ((t359.length : Int) ≤ (wrap64 (x18_1 - x17_1))) = false := decide_eq_false c56
                                      clear c56
                                      obtain ⟨ji59, hji59⟩ : ∃ j_ : Int, (wrap64 (x18_1 - x17_1)) = j_ := ⟨_, rfl⟩
                                      replace H : (if 0 ≤ (ji59) then (if (ji59) < (t359.length : Int) then (if (!(((rd_T42 t359 (ji59)).f0) == ((rd_T42 t356 x18_1).f0)) || (!(((rd_T42 t359 (ji59)).f1) == ((rd_T42 t356 x18_1).f1)) || (!(((rd_T42 t359 (ji59)).f2) == ((rd_T42 t356 x18_1).f2))))) = true then (some false) else (lockfastlaw11_TileOne.l0 k1 t325 ji12 (Int.tmod (wrap64 (a2)) t337) t356 t359 x17_1 (wrap64 (x18_1 + 1)) t330 t331 t332 t333 t334)) else (none)) else (none)) = some r := by first | (rw [hji59] at H; exact H) | (simp only [hji59] at H ⊢; exact H)
                                      (try rw [hji59] at c56b0)
                                      (try rw [hji59] at A53)
                                      have hji59w : (IntKind.i64.wrap (x18_1 - x17_1)) = ji59 := (i64_w _).trans hji59
                                      by_cases c60 : 0 ≤ (ji59)
                                      · rw [if_pos c60] at H
                                        have c60b0 : decide (0 ≤ (ji59)) = true := decide_eq_true c60
                                        clear c60
                                        by_cases c61 : (ji59) < (t359.length : Int)
                                        · rw [if_pos c61] at H
                                          have c61b0 : decide ((ji59) < (t359.length : Int)) = true := decide_eq_true c61
                                          clear c61
                                          by_cases c62 : (!(((rd_T42 t359 (ji59)).f0) == ((rd_T42 t356 x18_1).f0)) || (!(((rd_T42 t359 (ji59)).f1) == ((rd_T42 t356 x18_1).f1)) || (!(((rd_T42 t359 (ji59)).f2) == ((rd_T42 t356 x18_1).f2))))) = true
                                          · rw [if_pos c62] at H
                                            have c62b0 : (!(((rd_T42 t359 (ji59)).f0) == ((rd_T42 t356 x18_1).f0)) || (!(((rd_T42 t359 (ji59)).f1) == ((rd_T42 t356 x18_1).f1)) || (!(((rd_T42 t359 (ji59)).f2) == ((rd_T42 t356 x18_1).f2))))) = true := c62
                                            clear c62
                                            obtain rfl := Option.some.inj H
                                            try go_wp2
                                            have n0_ := Aside0.mk (Kd.R_drew HO_15.out)
                                            have n1_ := Aside0.mk (Kd.R_drew HO_16.out)
                                            have n2_ := Aside0.mk (blk_drew BK336.out)
                                            have n3_ := Aside0.mk (below_drew1 HB.out)
                                            clear HO_15
                                            clear HO_16
                                            clear BK336
                                            clear HB
                                            have HO_15 := n0_
                                            have HO_16 := n1_
                                            have BK336 := n2_
                                            have HB := n3_
                                            clear n0_ n1_ n2_ n3_
                                            have p362 : 0 ≤ (x18_1 : Int) := of_decide_eq_true (by first | (with_reducible assumption) | assumption)
                                            have q362 : x18_1 < (t356.length : Int) := of_decide_eq_true (by first | (with_reducible assumption) | assumption)
                                            obtain ⟨ad362, e362, hx362_0, hx362_1, hx362_2⟩ := at_T42 (Kd.R_reads' HO_15.out).2.2 x18_1 p362 q362
                                            cases e362
                                            replace p362 := eq_true p362
                                            replace q362 := eq_true q362
                                            refine start_ (n := 11) (S := fun w' => w'.cell? ⟨gb336, 0, none⟩ = some (.int .i64 t330) ∧ w'.cell? ⟨gb336, 1, none⟩ = some (.int .i64 t331) ∧ w'.cell? ⟨gb336, 2, none⟩ = some (.int .i64 t332) ∧ w'.cell? ⟨gb336, 3, none⟩ = some (.int .i64 t333) ∧ w'.cell? ⟨gb336, 4, none⟩ = some (.int .u64 t334) ∧ w'.cell? (ad362.add ((x18_1).toNat * 3)) = some (.int .i64 ((rd_T42 t356 x18_1).f0)) ∧ w'.cell? ⟨(ad362.add ((x18_1).toNat * 3)).block, (ad362.add ((x18_1).toNat * 3)).off + 1, none⟩ = some (.int .i64 ((rd_T42 t356 x18_1).f1)) ∧ w'.cell? ⟨(ad362.add ((x18_1).toNat * 3)).block, (ad362.add ((x18_1).toNat * 3)).off + 2, none⟩ = some (.int .i64 ((rd_T42 t356 x18_1).f2))) (ds := []) #[false, false, false, false, false, false, false, false, false, false, false] (by kernel_rfl) rfl rfl ⟨(blk_cell BK336.out 0).trans rfl, (blk_cell BK336.out 1).trans rfl, (blk_cell BK336.out 2).trans rfl, (blk_cell BK336.out 3).trans rfl, (blk_cell BK336.out 4).trans rfl, hx362_0, hx362_1, hx362_2⟩ (fun hHeld => ?_); refine with_tabW lockfastlaw11_TileOne.tab26 lockfastlaw11_TileOne.bits26 (fun HT_ HW_ => ?_)
                                            generalize wr.drew = w63 at HO_15 HO_16 BK336 HB hx362_0 hx362_1 hx362_2 hHeld ⊢
                                            refine pure_ (i := 0) (N := some 97) (v := ?_) (a' := ?_) #[true, false, false, false, false, false, false, false, false, false, false] rfl rfl (any_of HT_.out (by kernel_rfl)) (fun _ _ _ h => h) (Or.inl ⟨by rfl, ?_⟩) ?_ ?_
                                            rotate_left
                                            · intro w'
                                              go_simp
                                              with_reducible rfl
                                            rotate_left
                                            · simp only [Act.put, List.setIfInBounds_toArray, List.set_cons_zero, List.set_cons_succ, i64_w, i32_w]
                                              rfl
                                            refine pure_ (i := 1) (N := some 98) (v := ?_) (a' := ?_) #[true, true, false, false, false, false, false, false, false, false, false] rfl rfl (any_of HT_.out (by kernel_rfl)) (fun _ _ _ h => h) (Or.inl ⟨by rfl, ?_⟩) ?_ ?_
                                            rotate_left
                                            · intro w'
                                              go_simp
                                              with_reducible rfl
                                            rotate_left
                                            · simp only [Act.put, List.setIfInBounds_toArray, List.set_cons_zero, List.set_cons_succ, i64_w, i32_w]
                                              rfl
                                            refine pure_ (i := 2) (N := some 99) (v := ?_) (a' := ?_) #[true, true, true, false, false, false, false, false, false, false, false] rfl rfl (any_of HT_.out (by kernel_rfl)) (fun _ _ _ h => h) (Or.inl ⟨by rfl, ?_⟩) ?_ ?_
                                            rotate_left
                                            · intro w'
                                              go_simp
                                              with_reducible rfl
                                            rotate_left
                                            · simp only [Act.put, List.setIfInBounds_toArray, List.set_cons_zero, List.set_cons_succ, i64_w, i32_w]
                                              rfl
                                            refine pure_ (i := 4) (N := some 101) (v := ?_) (a' := ?_) #[true, true, true, false, true, false, false, false, false, false, false] rfl rfl (any_of HT_.out (by kernel_rfl)) (fun _ _ _ h => h) (Or.inl ⟨by rfl, ?_⟩) ?_ ?_
                                            rotate_left
                                            · intro w'
                                              go_simp
                                              with_reducible rfl
                                            rotate_left
                                            · simp only [Act.put, List.setIfInBounds_toArray, List.set_cons_zero, List.set_cons_succ, i64_w, i32_w]
                                              rfl
                                            refine pure_ (i := 5) (N := some 102) (v := ?_) (a' := ?_) #[true, true, true, false, true, true, false, false, false, false, false] rfl rfl (any_of HT_.out (by kernel_rfl)) (fun _ _ _ h => h) (Or.inl ⟨by rfl, ?_⟩) ?_ ?_
                                            rotate_left
                                            · intro w'
                                              go_simp
                                              with_reducible rfl
                                            rotate_left
                                            · simp only [Act.put, List.setIfInBounds_toArray, List.set_cons_zero, List.set_cons_succ, i64_w, i32_w]
                                              rfl
                                            refine pure_ (i := 6) (N := some 103) (v := ?_) (a' := ?_) #[true, true, true, false, true, true, true, false, false, false, false] rfl rfl (any_of HT_.out (by kernel_rfl)) (fun _ _ _ h => h) (Or.inl ⟨by rfl, ?_⟩) ?_ ?_
                                            rotate_left
                                            · intro w'
                                              go_simp
                                              with_reducible rfl
                                            rotate_left
                                            · simp only [Act.put, List.setIfInBounds_toArray, List.set_cons_zero, List.set_cons_succ, i64_w, i32_w]
                                              rfl
                                            refine take_ (i := 3) (N := some 100) (v := ?_) (a' := ?_) #[true, true, true, true, true, true, true, false, false, false, false] rfl rfl (take_ofW HT_.out HW_.out (by kernel_rfl)) (fun _ _ _ h => h) (Or.inl ⟨by rfl, ?_⟩) hHeld ?_ ?_
                                            rotate_left
                                            · rintro w' ⟨s0, s1, s2, s3, s4, s5, s6, s7⟩
                                              go_simp
                                              with_reducible rfl
                                            rotate_left
                                            · simp only [Act.put, List.setIfInBounds_toArray, List.set_cons_zero, List.set_cons_succ, i64_w, i32_w]
                                              rfl
                                            refine take_ (i := 7) (N := some 104) (v := ?_) (a' := ?_) #[true, true, true, true, true, true, true, true, false, false, false] rfl rfl (take_ofW HT_.out HW_.out (by kernel_rfl)) (fun _ _ _ h => h) (Or.inl ⟨by rfl, ?_⟩) hHeld ?_ ?_
                                            rotate_left
                                            · rintro w' ⟨s0, s1, s2, s3, s4, s5, s6, s7⟩
                                              go_simp
                                              with_reducible rfl
                                            rotate_left
                                            · simp only [Act.put, List.setIfInBounds_toArray, List.set_cons_zero, List.set_cons_succ, i64_w, i32_w]
                                              rfl
                                            refine one_ (i := 8) (N := some 105) #[true, true, true, true, true, true, true, true, true, false, false] rfl rfl (one_of HT_.out (by kernel_rfl)) (by decide) (fun K hK => ?_)
                                            refine goes_ Tryd.func28 (by kernel_rfl) rfl #[.int .i64 t331] (by rfl) rfl rfl (by (try simp only [List.map_toArray, List.map_cons, List.map_nil]); first | done | rfl | (simp only [List.length_drop, List.length_take]; rfl)) ?_
                                            with_reducible refine (lockfastref09_Block.calls t331 t363 _ A53.out).mono ?_
                                            rintro e w' ⟨rfl, ⟨nd, rfl⟩⟩
                                            refine ⟨_, rfl, ?_⟩
                                            refine hK.out _ _ ⟨(blk_cell BK336.out 0).trans rfl, (blk_cell BK336.out 1).trans rfl, (blk_cell BK336.out 2).trans rfl, (blk_cell BK336.out 3).trans rfl, (blk_cell BK336.out 4).trans rfl, hHeld.2.2.2.2.2.1, hHeld.2.2.2.2.2.2.1, hHeld.2.2.2.2.2.2.2⟩ (fun hHeld => ?_)
                                            clear hK K
                                            refine norm_ (a' := ?_) ?_ ?_
                                            rotate_left
                                            · show Act.put _ (some 105) _ = _
                                              simp only [Act.put, List.setIfInBounds_toArray, List.set_cons_zero, List.set_cons_succ, i64_w, i32_w]
                                              rfl
                                            refine pure_ (i := 9) (N := some 106) (v := ?_) (a' := ?_) #[true, true, true, true, true, true, true, true, true, true, false] rfl rfl (any_of HT_.out (by kernel_rfl)) (fun _ _ _ h => h) (Or.inl ⟨by rfl, ?_⟩) ?_ ?_
                                            rotate_left
                                            · intro w'
                                              go_simp
                                              with_reducible rfl
                                            rotate_left
                                            · simp only [Act.put, List.setIfInBounds_toArray, List.set_cons_zero, List.set_cons_succ, i64_w, i32_w]
                                              rfl
                                            refine pure_ (i := 10) (N := some 107) (v := ?_) (a' := ?_) #[true, true, true, true, true, true, true, true, true, true, true] rfl rfl (any_of HT_.out (by kernel_rfl)) (fun _ _ _ h => h) (Or.inl ⟨by rfl, ?_⟩) ?_ ?_
                                            rotate_left
                                            · intro w'
                                              go_simp
                                              with_reducible rfl
                                            rotate_left
                                            · simp only [Act.put, List.setIfInBounds_toArray, List.set_cons_zero, List.set_cons_succ, i64_w, i32_w]
                                              rfl
                                            refine done_ (done_of HT_.out (by kernel_rfl)) ?_
                                            try go_wp2
                                            (try (rw [drewN_self w63]; generalize hq_ : World.drewN w63 _ = w63; have n0_ : Aside0 (Kd.R k42 42 w63 w.heap.size (fun k_ => some k_ ≠ (.slice Ao50 t359.length co50 : Value).ownBlock) (.slice (some ad362) t356.length co49) t356) := ⟨by rw [← hq_]; exact (by (with_reducible repeat (first | apply Kd.R_alloc | apply Kd.R_drewN | apply Kd.R_drew)); exact HO_15.out)⟩; have n1_ : Aside0 (Kd.R k42 42 w63 w.heap.size (fun k_ => some k_ ≠ (.slice (some ad362) t356.length co49 : Value).ownBlock) (.slice Ao50 t359.length co50) t359) := ⟨by rw [← hq_]; exact (by (with_reducible repeat (first | apply Kd.R_alloc | apply Kd.R_drewN | apply Kd.R_drew)); exact HO_16.out)⟩; have n2_ : Aside0 (w63.heap[gb336]? = some (.cells #[.int .i64 t330, .int .i64 t331, .int .i64 t332, .int .i64 t333, .int .u64 t334] 29 (0, 0))) := ⟨by rw [← hq_]; exact (by (with_reducible repeat (first | refine blk_drewN ?_ _ | refine blk_drew ?_ | refine blk_alloc ?_ _)); exact BK336.out)⟩; have n3_ : Aside0 (Below w.heap.size w w63) := ⟨by rw [← hq_]; exact (by repeat (first | (with_reducible first | exact HB.out | apply below_alloc | apply pw_below_drewN | apply below_drew1 | refine below_set ?_ GE336.out) | exact HB.out))⟩; clear HO_15 HO_16 BK336 HB hq_; have HO_15 := n0_; have HO_16 := n1_; have BK336 := n2_; have HB := n3_; clear n0_ n1_ n2_ n3_))
                                            have n0_ := Aside0.mk (Kd.R_drew HO_15.out)
                                            have n1_ := Aside0.mk (Kd.R_drew HO_16.out)
                                            have n2_ := Aside0.mk (blk_drew BK336.out)
                                            have n3_ := Aside0.mk (below_drew1 HB.out)
                                            clear HO_15
                                            clear HO_16
                                            clear BK336
                                            clear HB
                                            have HO_15 := n0_
                                            have HO_16 := n1_
                                            have BK336 := n2_
                                            have HB := n3_
                                            clear n0_ n1_ n2_ n3_
                                            have p364 : 0 ≤ ((ji59) : Int) := of_decide_eq_true (by first | (with_reducible assumption) | assumption)
                                            have q364 : (ji59) < (t359.length : Int) := of_decide_eq_true (by first | (with_reducible assumption) | assumption)
                                            obtain ⟨ad364, e364, hx364_0, hx364_1, hx364_2⟩ := at_T42 (Kd.R_reads' HO_16.out).2.2 (ji59) p364 q364
                                            cases e364
                                            replace p364 := eq_true p364
                                            replace q364 := eq_true q364
                                            have p365 : 0 ≤ (x18_1 : Int) := of_decide_eq_true (by first | (with_reducible assumption) | assumption)
                                            have q365 : x18_1 < (t356.length : Int) := of_decide_eq_true (by first | (with_reducible assumption) | assumption)
                                            obtain ⟨ad365, e365, hx365_0, hx365_1, hx365_2⟩ := at_T42 (Kd.R_reads' HO_15.out).2.2 x18_1 p365 q365
                                            obtain rfl : ad362 = ad365 := (by injection e365)
                                            replace p365 := eq_true p365
                                            replace q365 := eq_true q365
                                            refine start_ (n := 19) (S := fun w' => w'.cell? (ad364.add (((ji59)).toNat * 3)) = some (.int .i64 ((rd_T42 t359 (ji59)).f0)) ∧ w'.cell? ⟨(ad364.add (((ji59)).toNat * 3)).block, (ad364.add (((ji59)).toNat * 3)).off + 1, none⟩ = some (.int .i64 ((rd_T42 t359 (ji59)).f1)) ∧ w'.cell? ⟨(ad364.add (((ji59)).toNat * 3)).block, (ad364.add (((ji59)).toNat * 3)).off + 2, none⟩ = some (.int .i64 ((rd_T42 t359 (ji59)).f2)) ∧ w'.cell? (ad362.add ((x18_1).toNat * 3)) = some (.int .i64 ((rd_T42 t356 x18_1).f0)) ∧ w'.cell? ⟨(ad362.add ((x18_1).toNat * 3)).block, (ad362.add ((x18_1).toNat * 3)).off + 1, none⟩ = some (.int .i64 ((rd_T42 t356 x18_1).f1)) ∧ w'.cell? ⟨(ad362.add ((x18_1).toNat * 3)).block, (ad362.add ((x18_1).toNat * 3)).off + 2, none⟩ = some (.int .i64 ((rd_T42 t356 x18_1).f2))) (ds := []) #[false, false, false, false, false, false, false, false, false, false, false, false, false, false, false, false, false, false, false] (by kernel_rfl) rfl rfl ⟨hx364_0, hx364_1, hx364_2, hx365_0, hx365_1, hx365_2⟩ (fun hHeld => ?_); refine with_tabW lockfastlaw11_TileOne.tab28 lockfastlaw11_TileOne.bits28 (fun HT_ HW_ => ?_)
                                            generalize w63.drew = w64 at HO_15 HO_16 BK336 HB hx364_0 hx364_1 hx364_2 hx365_0 hx365_1 hx365_2 hHeld ⊢
                                            refine pure_ (i := 0) (N := some 110) (v := ?_) (a' := ?_) #[true, false, false, false, false, false, false, false, false, false, false, false, false, false, false, false, false, false, false] rfl rfl (any_of HT_.out (by kernel_rfl)) (fun _ _ _ h => h) (Or.inl ⟨by rfl, ?_⟩) ?_ ?_
                                            rotate_left
                                            · intro w'
                                              go_simp
                                              with_reducible rfl
                                            rotate_left
                                            · simp only [Act.put, List.setIfInBounds_toArray, List.set_cons_zero, List.set_cons_succ, i64_w, i32_w]
                                              rfl
                                            refine pure_ (i := 1) (N := some 111) (v := ?_) (a' := ?_) #[true, true, false, false, false, false, false, false, false, false, false, false, false, false, false, false, false, false, false] rfl rfl (any_of HT_.out (by kernel_rfl)) (fun _ _ _ h => h) (Or.inl ⟨by rfl, ?_⟩) ?_ ?_
                                            rotate_left
                                            · intro w'
                                              go_simp
                                              with_reducible rfl
                                            rotate_left
                                            · simp only [Act.put, List.setIfInBounds_toArray, List.set_cons_zero, List.set_cons_succ, i64_w, i32_w]
                                              rfl
                                            refine pure_ (i := 2) (N := some 112) (v := ?_) (a' := ?_) #[true, true, true, false, false, false, false, false, false, false, false, false, false, false, false, false, false, false, false] rfl rfl (any_of HT_.out (by kernel_rfl)) (fun _ _ _ h => h) (Or.inl ⟨by rfl, ?_⟩) ?_ ?_
                                            rotate_left
                                            · intro w'
                                              go_simp
                                              with_reducible rfl
                                            rotate_left
                                            · simp only [Act.put, List.setIfInBounds_toArray, List.set_cons_zero, List.set_cons_succ, i64_w, i32_w]
                                              rfl
                                            refine pure_ (i := 3) (N := some 113) (v := ?_) (a' := ?_) #[true, true, true, true, false, false, false, false, false, false, false, false, false, false, false, false, false, false, false] rfl rfl (any_of HT_.out (by kernel_rfl)) (fun _ _ _ h => h) (Or.inl ⟨by rfl, ?_⟩) ?_ ?_
                                            rotate_left
                                            · intro w'
                                              go_simp
                                              with_reducible rfl
                                            rotate_left
                                            · simp only [Act.put, List.setIfInBounds_toArray, List.set_cons_zero, List.set_cons_succ, i64_w, i32_w]
                                              rfl
                                            refine pure_ (i := 4) (N := some 114) (v := ?_) (a' := ?_) #[true, true, true, true, true, false, false, false, false, false, false, false, false, false, false, false, false, false, false] rfl rfl (any_of HT_.out (by kernel_rfl)) (fun _ _ _ h => h) (Or.inl ⟨by rfl, ?_⟩) ?_ ?_
                                            rotate_left
                                            · intro w'
                                              go_simp
                                              with_reducible rfl
                                            rotate_left
                                            · simp only [Act.put, List.setIfInBounds_toArray, List.set_cons_zero, List.set_cons_succ, i64_w, i32_w]
                                              rfl
                                            refine pure_ (i := 5) (N := some 115) (v := ?_) (a' := ?_) #[true, true, true, true, true, true, false, false, false, false, false, false, false, false, false, false, false, false, false] rfl rfl (any_of HT_.out (by kernel_rfl)) (fun _ _ _ h => h) (Or.inl ⟨by rfl, ?_⟩) ?_ ?_
                                            rotate_left
                                            · intro w'
                                              go_simp
                                              with_reducible rfl
                                            rotate_left
                                            · simp only [Act.put, List.setIfInBounds_toArray, List.set_cons_zero, List.set_cons_succ, i64_w, i32_w]
                                              rfl
                                            refine pure_ (i := 6) (N := some 116) (v := ?_) (a' := ?_) #[true, true, true, true, true, true, true, false, false, false, false, false, false, false, false, false, false, false, false] rfl rfl (any_of HT_.out (by kernel_rfl)) (fun _ _ _ h => h) (Or.inl ⟨by rfl, ?_⟩) ?_ ?_
                                            rotate_left
                                            · intro w'
                                              go_simp
                                              with_reducible rfl
                                            rotate_left
                                            · simp only [Act.put, List.setIfInBounds_toArray, List.set_cons_zero, List.set_cons_succ, i64_w, i32_w]
                                              rfl
                                            refine pure_ (i := 7) (N := some 117) (v := ?_) (a' := ?_) #[true, true, true, true, true, true, true, true, false, false, false, false, false, false, false, false, false, false, false] rfl rfl (any_of HT_.out (by kernel_rfl)) (fun _ _ _ h => h) (Or.inl ⟨by rfl, ?_⟩) ?_ ?_
                                            rotate_left
                                            · intro w'
                                              go_simp
                                              with_reducible rfl
                                            rotate_left
                                            · simp only [Act.put, List.setIfInBounds_toArray, List.set_cons_zero, List.set_cons_succ, i64_w, i32_w]
                                              rfl
                                            refine pure_ (i := 8) (N := some 118) (v := ?_) (a' := ?_) #[true, true, true, true, true, true, true, true, true, false, false, false, false, false, false, false, false, false, false] rfl rfl (any_of HT_.out (by kernel_rfl)) (fun _ _ _ h => h) (Or.inl ⟨by rfl, ?_⟩) ?_ ?_
                                            rotate_left
                                            · intro w'
                                              go_simp
                                              with_reducible rfl
                                            rotate_left
                                            · simp only [Act.put, List.setIfInBounds_toArray, List.set_cons_zero, List.set_cons_succ, i64_w, i32_w]
                                              rfl
                                            refine pure_ (i := 9) (N := some 119) (v := ?_) (a' := ?_) #[true, true, true, true, true, true, true, true, true, true, false, false, false, false, false, false, false, false, false] rfl rfl (any_of HT_.out (by kernel_rfl)) (fun _ _ _ h => h) (Or.inl ⟨by rfl, ?_⟩) ?_ ?_
                                            rotate_left
                                            · intro w'
                                              go_simp
                                              with_reducible rfl
                                            rotate_left
                                            · simp only [Act.put, List.setIfInBounds_toArray, List.set_cons_zero, List.set_cons_succ, i64_w, i32_w]
                                              rfl
                                            refine pure_ (i := 10) (N := some 120) (v := ?_) (a' := ?_) #[true, true, true, true, true, true, true, true, true, true, true, false, false, false, false, false, false, false, false] rfl rfl (any_of HT_.out (by kernel_rfl)) (fun _ _ _ h => h) (Or.inl ⟨by rfl, ?_⟩) ?_ ?_
                                            rotate_left
                                            · intro w'
                                              go_simp
                                              with_reducible rfl
                                            rotate_left
                                            · simp only [Act.put, List.setIfInBounds_toArray, List.set_cons_zero, List.set_cons_succ, i64_w, i32_w]
                                              rfl
                                            refine pure_ (i := 11) (N := some 121) (v := ?_) (a' := ?_) #[true, true, true, true, true, true, true, true, true, true, true, true, false, false, false, false, false, false, false] rfl rfl (any_of HT_.out (by kernel_rfl)) (fun _ _ _ h => h) (Or.inl ⟨by rfl, ?_⟩) ?_ ?_
                                            rotate_left
                                            · intro w'
                                              go_simp
                                              with_reducible rfl
                                            rotate_left
                                            · simp only [Act.put, List.setIfInBounds_toArray, List.set_cons_zero, List.set_cons_succ, i64_w, i32_w]
                                              rfl
                                            refine pure_ (i := 13) (N := some 123) (v := ?_) (a' := ?_) #[true, true, true, true, true, true, true, true, true, true, true, true, false, true, false, false, false, false, false] rfl rfl (any_of HT_.out (by kernel_rfl)) (fun _ _ _ h => h) (Or.inl ⟨by rfl, ?_⟩) ?_ ?_
                                            rotate_left
                                            · intro w'
                                              go_simp
                                              with_reducible rfl
                                            rotate_left
                                            · simp only [Act.put, List.setIfInBounds_toArray, List.set_cons_zero, List.set_cons_succ, i64_w, i32_w]
                                              rfl
                                            refine pure_ (i := 14) (N := some 124) (v := ?_) (a' := ?_) #[true, true, true, true, true, true, true, true, true, true, true, true, false, true, true, false, false, false, false] rfl rfl (any_of HT_.out (by kernel_rfl)) (fun _ _ _ h => h) (Or.inl ⟨by rfl, ?_⟩) ?_ ?_
                                            rotate_left
                                            · intro w'
                                              go_simp
                                              with_reducible rfl
                                            rotate_left
                                            · simp only [Act.put, List.setIfInBounds_toArray, List.set_cons_zero, List.set_cons_succ, i64_w, i32_w]
                                              rfl
                                            refine pure_ (i := 15) (N := some 125) (v := ?_) (a' := ?_) #[true, true, true, true, true, true, true, true, true, true, true, true, false, true, true, true, false, false, false] rfl rfl (any_of HT_.out (by kernel_rfl)) (fun _ _ _ h => h) (Or.inl ⟨by rfl, ?_⟩) ?_ ?_
                                            rotate_left
                                            · intro w'
                                              go_simp
                                              with_reducible rfl
                                            rotate_left
                                            · simp only [Act.put, List.setIfInBounds_toArray, List.set_cons_zero, List.set_cons_succ, i64_w, i32_w]
                                              rfl
                                            refine take_ (i := 12) (N := some 122) (v := ?_) (a' := ?_) #[true, true, true, true, true, true, true, true, true, true, true, true, true, true, true, true, false, false, false] rfl rfl (take_ofW HT_.out HW_.out (by kernel_rfl)) (fun _ _ _ h => h) (Or.inl ⟨by rfl, ?_⟩) hHeld ?_ ?_
                                            rotate_left
                                            · rintro w' ⟨s0, s1, s2, s3, s4, s5⟩
                                              go_simp
                                              with_reducible rfl
                                            rotate_left
                                            · simp only [Act.put, List.setIfInBounds_toArray, List.set_cons_zero, List.set_cons_succ, i64_w, i32_w]
                                              rfl
                                            refine take_ (i := 16) (N := some 126) (v := ?_) (a' := ?_) #[true, true, true, true, true, true, true, true, true, true, true, true, true, true, true, true, true, false, false] rfl rfl (take_ofW HT_.out HW_.out (by kernel_rfl)) (fun _ _ _ h => h) (Or.inl ⟨by rfl, ?_⟩) hHeld ?_ ?_
                                            rotate_left
                                            · rintro w' ⟨s0, s1, s2, s3, s4, s5⟩
                                              go_simp
                                              with_reducible rfl
                                            rotate_left
                                            · simp only [Act.put, List.setIfInBounds_toArray, List.set_cons_zero, List.set_cons_succ, i64_w, i32_w]
                                              rfl
                                            refine pure_ (i := 17) (N := some 127) (v := ?_) (a' := ?_) #[true, true, true, true, true, true, true, true, true, true, true, true, true, true, true, true, true, true, false] rfl rfl (any_of HT_.out (by kernel_rfl)) (fun _ _ _ h => h) (Or.inl ⟨by rfl, ?_⟩) ?_ ?_
                                            rotate_left
                                            · intro w'
                                              go_simp
                                              with_reducible rfl
                                            rotate_left
                                            · simp only [Act.put, List.setIfInBounds_toArray, List.set_cons_zero, List.set_cons_succ, i64_w, i32_w]
                                              rfl
                                            refine pure_ (i := 18) (N := some 128) (v := ?_) (a' := ?_) #[true, true, true, true, true, true, true, true, true, true, true, true, true, true, true, true, true, true, true] rfl rfl (any_of HT_.out (by kernel_rfl)) (fun _ _ _ h => h) (Or.inl ⟨by rfl, ?_⟩) ?_ ?_
                                            rotate_left
                                            · intro w'
                                              go_simp
                                              with_reducible rfl
                                            rotate_left
                                            · simp only [Act.put, List.setIfInBounds_toArray, List.set_cons_zero, List.set_cons_succ, i64_w, i32_w]
                                              rfl
                                            refine done_ (done_of HT_.out (by kernel_rfl)) ?_
                                            try go_wp2
                                            go_ret
                                            exact ⟨by first | rfl | (simp [errW_none, errW_some] <;> rfl) | (simp only [← hji12, ← hji59]; first | rfl | (simp [errW_none, errW_some] <;> rfl)) | (simp [*, errW_none, errW_some] <;> rfl), by repeat (first | (with_reducible first | exact HB.out | apply below_alloc | apply pw_below_drewN | apply below_drew1 | refine below_set ?_ GE336.out) | exact HB.out)⟩
                                          · rw [if_neg c62] at H
                                            have c62b0 : (!(((rd_T42 t359 (ji59)).f0) == ((rd_T42 t356 x18_1).f0)) || (!(((rd_T42 t359 (ji59)).f1) == ((rd_T42 t356 x18_1).f1)) || (!(((rd_T42 t359 (ji59)).f2) == ((rd_T42 t356 x18_1).f2))))) = false := by simpa using c62
                                            clear c62
                                            have H' := Aside0.mk H
                                            clear H
                                            try go_wp2
                                            have n0_ := Aside0.mk (Kd.R_drew HO_15.out)
                                            have n1_ := Aside0.mk (Kd.R_drew HO_16.out)
                                            have n2_ := Aside0.mk (blk_drew BK336.out)
                                            have n3_ := Aside0.mk (below_drew1 HB.out)
                                            clear HO_15
                                            clear HO_16
                                            clear BK336
                                            clear HB
                                            have HO_15 := n0_
                                            have HO_16 := n1_
                                            have BK336 := n2_
                                            have HB := n3_
                                            clear n0_ n1_ n2_ n3_
                                            have p362 : 0 ≤ (x18_1 : Int) := of_decide_eq_true (by first | (with_reducible assumption) | assumption)
                                            have q362 : x18_1 < (t356.length : Int) := of_decide_eq_true (by first | (with_reducible assumption) | assumption)
                                            obtain ⟨ad362, e362, hx362_0, hx362_1, hx362_2⟩ := at_T42 (Kd.R_reads' HO_15.out).2.2 x18_1 p362 q362
                                            cases e362
                                            replace p362 := eq_true p362
                                            replace q362 := eq_true q362
                                            refine start_ (n := 11) (S := fun w' => w'.cell? ⟨gb336, 0, none⟩ = some (.int .i64 t330) ∧ w'.cell? ⟨gb336, 1, none⟩ = some (.int .i64 t331) ∧ w'.cell? ⟨gb336, 2, none⟩ = some (.int .i64 t332) ∧ w'.cell? ⟨gb336, 3, none⟩ = some (.int .i64 t333) ∧ w'.cell? ⟨gb336, 4, none⟩ = some (.int .u64 t334) ∧ w'.cell? (ad362.add ((x18_1).toNat * 3)) = some (.int .i64 ((rd_T42 t356 x18_1).f0)) ∧ w'.cell? ⟨(ad362.add ((x18_1).toNat * 3)).block, (ad362.add ((x18_1).toNat * 3)).off + 1, none⟩ = some (.int .i64 ((rd_T42 t356 x18_1).f1)) ∧ w'.cell? ⟨(ad362.add ((x18_1).toNat * 3)).block, (ad362.add ((x18_1).toNat * 3)).off + 2, none⟩ = some (.int .i64 ((rd_T42 t356 x18_1).f2))) (ds := []) #[false, false, false, false, false, false, false, false, false, false, false] (by kernel_rfl) rfl rfl ⟨(blk_cell BK336.out 0).trans rfl, (blk_cell BK336.out 1).trans rfl, (blk_cell BK336.out 2).trans rfl, (blk_cell BK336.out 3).trans rfl, (blk_cell BK336.out 4).trans rfl, hx362_0, hx362_1, hx362_2⟩ (fun hHeld => ?_); refine with_tabW lockfastlaw11_TileOne.tab26 lockfastlaw11_TileOne.bits26 (fun HT_ HW_ => ?_)
                                            generalize wr.drew = w65 at HO_15 HO_16 BK336 HB hx362_0 hx362_1 hx362_2 hHeld ⊢
                                            refine pure_ (i := 0) (N := some 97) (v := ?_) (a' := ?_) #[true, false, false, false, false, false, false, false, false, false, false] rfl rfl (any_of HT_.out (by kernel_rfl)) (fun _ _ _ h => h) (Or.inl ⟨by rfl, ?_⟩) ?_ ?_
                                            rotate_left
                                            · intro w'
                                              go_simp
                                              with_reducible rfl
                                            rotate_left
                                            · simp only [Act.put, List.setIfInBounds_toArray, List.set_cons_zero, List.set_cons_succ, i64_w, i32_w]
                                              rfl
                                            refine pure_ (i := 1) (N := some 98) (v := ?_) (a' := ?_) #[true, true, false, false, false, false, false, false, false, false, false] rfl rfl (any_of HT_.out (by kernel_rfl)) (fun _ _ _ h => h) (Or.inl ⟨by rfl, ?_⟩) ?_ ?_
                                            rotate_left
                                            · intro w'
                                              go_simp
                                              with_reducible rfl
                                            rotate_left
                                            · simp only [Act.put, List.setIfInBounds_toArray, List.set_cons_zero, List.set_cons_succ, i64_w, i32_w]
                                              rfl
                                            refine pure_ (i := 2) (N := some 99) (v := ?_) (a' := ?_) #[true, true, true, false, false, false, false, false, false, false, false] rfl rfl (any_of HT_.out (by kernel_rfl)) (fun _ _ _ h => h) (Or.inl ⟨by rfl, ?_⟩) ?_ ?_
                                            rotate_left
                                            · intro w'
                                              go_simp
                                              with_reducible rfl
                                            rotate_left
                                            · simp only [Act.put, List.setIfInBounds_toArray, List.set_cons_zero, List.set_cons_succ, i64_w, i32_w]
                                              rfl
                                            refine pure_ (i := 4) (N := some 101) (v := ?_) (a' := ?_) #[true, true, true, false, true, false, false, false, false, false, false] rfl rfl (any_of HT_.out (by kernel_rfl)) (fun _ _ _ h => h) (Or.inl ⟨by rfl, ?_⟩) ?_ ?_
                                            rotate_left
                                            · intro w'
                                              go_simp
                                              with_reducible rfl
                                            rotate_left
                                            · simp only [Act.put, List.setIfInBounds_toArray, List.set_cons_zero, List.set_cons_succ, i64_w, i32_w]
                                              rfl
                                            refine pure_ (i := 5) (N := some 102) (v := ?_) (a' := ?_) #[true, true, true, false, true, true, false, false, false, false, false] rfl rfl (any_of HT_.out (by kernel_rfl)) (fun _ _ _ h => h) (Or.inl ⟨by rfl, ?_⟩) ?_ ?_
                                            rotate_left
                                            · intro w'
                                              go_simp
                                              with_reducible rfl
                                            rotate_left
                                            · simp only [Act.put, List.setIfInBounds_toArray, List.set_cons_zero, List.set_cons_succ, i64_w, i32_w]
                                              rfl
                                            refine pure_ (i := 6) (N := some 103) (v := ?_) (a' := ?_) #[true, true, true, false, true, true, true, false, false, false, false] rfl rfl (any_of HT_.out (by kernel_rfl)) (fun _ _ _ h => h) (Or.inl ⟨by rfl, ?_⟩) ?_ ?_
                                            rotate_left
                                            · intro w'
                                              go_simp
                                              with_reducible rfl
                                            rotate_left
                                            · simp only [Act.put, List.setIfInBounds_toArray, List.set_cons_zero, List.set_cons_succ, i64_w, i32_w]
                                              rfl
                                            refine take_ (i := 3) (N := some 100) (v := ?_) (a' := ?_) #[true, true, true, true, true, true, true, false, false, false, false] rfl rfl (take_ofW HT_.out HW_.out (by kernel_rfl)) (fun _ _ _ h => h) (Or.inl ⟨by rfl, ?_⟩) hHeld ?_ ?_
                                            rotate_left
                                            · rintro w' ⟨s0, s1, s2, s3, s4, s5, s6, s7⟩
                                              go_simp
                                              with_reducible rfl
                                            rotate_left
                                            · simp only [Act.put, List.setIfInBounds_toArray, List.set_cons_zero, List.set_cons_succ, i64_w, i32_w]
                                              rfl
                                            refine take_ (i := 7) (N := some 104) (v := ?_) (a' := ?_) #[true, true, true, true, true, true, true, true, false, false, false] rfl rfl (take_ofW HT_.out HW_.out (by kernel_rfl)) (fun _ _ _ h => h) (Or.inl ⟨by rfl, ?_⟩) hHeld ?_ ?_
                                            rotate_left
                                            · rintro w' ⟨s0, s1, s2, s3, s4, s5, s6, s7⟩
                                              go_simp
                                              with_reducible rfl
                                            rotate_left
                                            · simp only [Act.put, List.setIfInBounds_toArray, List.set_cons_zero, List.set_cons_succ, i64_w, i32_w]
                                              rfl
                                            refine one_ (i := 8) (N := some 105) #[true, true, true, true, true, true, true, true, true, false, false] rfl rfl (one_of HT_.out (by kernel_rfl)) (by decide) (fun K hK => ?_)
                                            refine goes_ Tryd.func28 (by kernel_rfl) rfl #[.int .i64 t331] (by rfl) rfl rfl (by (try simp only [List.map_toArray, List.map_cons, List.map_nil]); first | done | rfl | (simp only [List.length_drop, List.length_take]; rfl)) ?_
                                            with_reducible refine (lockfastref09_Block.calls t331 t363 _ A53.out).mono ?_
                                            rintro e w' ⟨rfl, ⟨nd, rfl⟩⟩
                                            refine ⟨_, rfl, ?_⟩
                                            refine hK.out _ _ ⟨(blk_cell BK336.out 0).trans rfl, (blk_cell BK336.out 1).trans rfl, (blk_cell BK336.out 2).trans rfl, (blk_cell BK336.out 3).trans rfl, (blk_cell BK336.out 4).trans rfl, hHeld.2.2.2.2.2.1, hHeld.2.2.2.2.2.2.1, hHeld.2.2.2.2.2.2.2⟩ (fun hHeld => ?_)
                                            clear hK K
                                            refine norm_ (a' := ?_) ?_ ?_
                                            rotate_left
                                            · show Act.put _ (some 105) _ = _
                                              simp only [Act.put, List.setIfInBounds_toArray, List.set_cons_zero, List.set_cons_succ, i64_w, i32_w]
                                              rfl
                                            refine pure_ (i := 9) (N := some 106) (v := ?_) (a' := ?_) #[true, true, true, true, true, true, true, true, true, true, false] rfl rfl (any_of HT_.out (by kernel_rfl)) (fun _ _ _ h => h) (Or.inl ⟨by rfl, ?_⟩) ?_ ?_
                                            rotate_left
                                            · intro w'
                                              go_simp
                                              with_reducible rfl
                                            rotate_left
                                            · simp only [Act.put, List.setIfInBounds_toArray, List.set_cons_zero, List.set_cons_succ, i64_w, i32_w]
                                              rfl
                                            refine pure_ (i := 10) (N := some 107) (v := ?_) (a' := ?_) #[true, true, true, true, true, true, true, true, true, true, true] rfl rfl (any_of HT_.out (by kernel_rfl)) (fun _ _ _ h => h) (Or.inl ⟨by rfl, ?_⟩) ?_ ?_
                                            rotate_left
                                            · intro w'
                                              go_simp
                                              with_reducible rfl
                                            rotate_left
                                            · simp only [Act.put, List.setIfInBounds_toArray, List.set_cons_zero, List.set_cons_succ, i64_w, i32_w]
                                              rfl
                                            refine done_ (done_of HT_.out (by kernel_rfl)) ?_
                                            try go_wp2
                                            (try (rw [drewN_self w65]; generalize hq_ : World.drewN w65 _ = w65; have n0_ : Aside0 (Kd.R k42 42 w65 w.heap.size (fun k_ => some k_ ≠ (.slice Ao50 t359.length co50 : Value).ownBlock) (.slice (some ad362) t356.length co49) t356) := ⟨by rw [← hq_]; exact (by (with_reducible repeat (first | apply Kd.R_alloc | apply Kd.R_drewN | apply Kd.R_drew)); exact HO_15.out)⟩; have n1_ : Aside0 (Kd.R k42 42 w65 w.heap.size (fun k_ => some k_ ≠ (.slice (some ad362) t356.length co49 : Value).ownBlock) (.slice Ao50 t359.length co50) t359) := ⟨by rw [← hq_]; exact (by (with_reducible repeat (first | apply Kd.R_alloc | apply Kd.R_drewN | apply Kd.R_drew)); exact HO_16.out)⟩; have n2_ : Aside0 (w65.heap[gb336]? = some (.cells #[.int .i64 t330, .int .i64 t331, .int .i64 t332, .int .i64 t333, .int .u64 t334] 29 (0, 0))) := ⟨by rw [← hq_]; exact (by (with_reducible repeat (first | refine blk_drewN ?_ _ | refine blk_drew ?_ | refine blk_alloc ?_ _)); exact BK336.out)⟩; have n3_ : Aside0 (Below w.heap.size w w65) := ⟨by rw [← hq_]; exact (by repeat (first | (with_reducible first | exact HB.out | apply below_alloc | apply pw_below_drewN | apply below_drew1 | refine below_set ?_ GE336.out) | exact HB.out))⟩; clear HO_15 HO_16 BK336 HB hq_; have HO_15 := n0_; have HO_16 := n1_; have BK336 := n2_; have HB := n3_; clear n0_ n1_ n2_ n3_))
                                            have n0_ := Aside0.mk (Kd.R_drew HO_15.out)
                                            have n1_ := Aside0.mk (Kd.R_drew HO_16.out)
                                            have n2_ := Aside0.mk (blk_drew BK336.out)
                                            have n3_ := Aside0.mk (below_drew1 HB.out)
                                            clear HO_15
                                            clear HO_16
                                            clear BK336
                                            clear HB
                                            have HO_15 := n0_
                                            have HO_16 := n1_
                                            have BK336 := n2_
                                            have HB := n3_
                                            clear n0_ n1_ n2_ n3_
                                            have p364 : 0 ≤ ((ji59) : Int) := of_decide_eq_true (by first | (with_reducible assumption) | assumption)
                                            have q364 : (ji59) < (t359.length : Int) := of_decide_eq_true (by first | (with_reducible assumption) | assumption)
                                            obtain ⟨ad364, e364, hx364_0, hx364_1, hx364_2⟩ := at_T42 (Kd.R_reads' HO_16.out).2.2 (ji59) p364 q364
                                            cases e364
                                            replace p364 := eq_true p364
                                            replace q364 := eq_true q364
                                            have p365 : 0 ≤ (x18_1 : Int) := of_decide_eq_true (by first | (with_reducible assumption) | assumption)
                                            have q365 : x18_1 < (t356.length : Int) := of_decide_eq_true (by first | (with_reducible assumption) | assumption)
                                            obtain ⟨ad365, e365, hx365_0, hx365_1, hx365_2⟩ := at_T42 (Kd.R_reads' HO_15.out).2.2 x18_1 p365 q365
                                            obtain rfl : ad362 = ad365 := (by injection e365)
                                            replace p365 := eq_true p365
                                            replace q365 := eq_true q365
                                            refine start_ (n := 19) (S := fun w' => w'.cell? (ad364.add (((ji59)).toNat * 3)) = some (.int .i64 ((rd_T42 t359 (ji59)).f0)) ∧ w'.cell? ⟨(ad364.add (((ji59)).toNat * 3)).block, (ad364.add (((ji59)).toNat * 3)).off + 1, none⟩ = some (.int .i64 ((rd_T42 t359 (ji59)).f1)) ∧ w'.cell? ⟨(ad364.add (((ji59)).toNat * 3)).block, (ad364.add (((ji59)).toNat * 3)).off + 2, none⟩ = some (.int .i64 ((rd_T42 t359 (ji59)).f2)) ∧ w'.cell? (ad362.add ((x18_1).toNat * 3)) = some (.int .i64 ((rd_T42 t356 x18_1).f0)) ∧ w'.cell? ⟨(ad362.add ((x18_1).toNat * 3)).block, (ad362.add ((x18_1).toNat * 3)).off + 1, none⟩ = some (.int .i64 ((rd_T42 t356 x18_1).f1)) ∧ w'.cell? ⟨(ad362.add ((x18_1).toNat * 3)).block, (ad362.add ((x18_1).toNat * 3)).off + 2, none⟩ = some (.int .i64 ((rd_T42 t356 x18_1).f2))) (ds := []) #[false, false, false, false, false, false, false, false, false, false, false, false, false, false, false, false, false, false, false] (by kernel_rfl) rfl rfl ⟨hx364_0, hx364_1, hx364_2, hx365_0, hx365_1, hx365_2⟩ (fun hHeld => ?_); refine with_tabW lockfastlaw11_TileOne.tab28 lockfastlaw11_TileOne.bits28 (fun HT_ HW_ => ?_)
                                            generalize w65.drew = w66 at HO_15 HO_16 BK336 HB hx364_0 hx364_1 hx364_2 hx365_0 hx365_1 hx365_2 hHeld ⊢
                                            refine pure_ (i := 0) (N := some 110) (v := ?_) (a' := ?_) #[true, false, false, false, false, false, false, false, false, false, false, false, false, false, false, false, false, false, false] rfl rfl (any_of HT_.out (by kernel_rfl)) (fun _ _ _ h => h) (Or.inl ⟨by rfl, ?_⟩) ?_ ?_
                                            rotate_left
                                            · intro w'
                                              go_simp
                                              with_reducible rfl
                                            rotate_left
                                            · simp only [Act.put, List.setIfInBounds_toArray, List.set_cons_zero, List.set_cons_succ, i64_w, i32_w]
                                              rfl
                                            refine pure_ (i := 1) (N := some 111) (v := ?_) (a' := ?_) #[true, true, false, false, false, false, false, false, false, false, false, false, false, false, false, false, false, false, false] rfl rfl (any_of HT_.out (by kernel_rfl)) (fun _ _ _ h => h) (Or.inl ⟨by rfl, ?_⟩) ?_ ?_
                                            rotate_left
                                            · intro w'
                                              go_simp
                                              with_reducible rfl
                                            rotate_left
                                            · simp only [Act.put, List.setIfInBounds_toArray, List.set_cons_zero, List.set_cons_succ, i64_w, i32_w]
                                              rfl
                                            refine pure_ (i := 2) (N := some 112) (v := ?_) (a' := ?_) #[true, true, true, false, false, false, false, false, false, false, false, false, false, false, false, false, false, false, false] rfl rfl (any_of HT_.out (by kernel_rfl)) (fun _ _ _ h => h) (Or.inl ⟨by rfl, ?_⟩) ?_ ?_
                                            rotate_left
                                            · intro w'
                                              go_simp
                                              with_reducible rfl
                                            rotate_left
                                            · simp only [Act.put, List.setIfInBounds_toArray, List.set_cons_zero, List.set_cons_succ, i64_w, i32_w]
                                              rfl
                                            refine pure_ (i := 3) (N := some 113) (v := ?_) (a' := ?_) #[true, true, true, true, false, false, false, false, false, false, false, false, false, false, false, false, false, false, false] rfl rfl (any_of HT_.out (by kernel_rfl)) (fun _ _ _ h => h) (Or.inl ⟨by rfl, ?_⟩) ?_ ?_
                                            rotate_left
                                            · intro w'
                                              go_simp
                                              with_reducible rfl
                                            rotate_left
                                            · simp only [Act.put, List.setIfInBounds_toArray, List.set_cons_zero, List.set_cons_succ, i64_w, i32_w]
                                              rfl
                                            refine pure_ (i := 4) (N := some 114) (v := ?_) (a' := ?_) #[true, true, true, true, true, false, false, false, false, false, false, false, false, false, false, false, false, false, false] rfl rfl (any_of HT_.out (by kernel_rfl)) (fun _ _ _ h => h) (Or.inl ⟨by rfl, ?_⟩) ?_ ?_
                                            rotate_left
                                            · intro w'
                                              go_simp
                                              with_reducible rfl
                                            rotate_left
                                            · simp only [Act.put, List.setIfInBounds_toArray, List.set_cons_zero, List.set_cons_succ, i64_w, i32_w]
                                              rfl
                                            refine pure_ (i := 5) (N := some 115) (v := ?_) (a' := ?_) #[true, true, true, true, true, true, false, false, false, false, false, false, false, false, false, false, false, false, false] rfl rfl (any_of HT_.out (by kernel_rfl)) (fun _ _ _ h => h) (Or.inl ⟨by rfl, ?_⟩) ?_ ?_
                                            rotate_left
                                            · intro w'
                                              go_simp
                                              with_reducible rfl
                                            rotate_left
                                            · simp only [Act.put, List.setIfInBounds_toArray, List.set_cons_zero, List.set_cons_succ, i64_w, i32_w]
                                              rfl
                                            refine pure_ (i := 6) (N := some 116) (v := ?_) (a' := ?_) #[true, true, true, true, true, true, true, false, false, false, false, false, false, false, false, false, false, false, false] rfl rfl (any_of HT_.out (by kernel_rfl)) (fun _ _ _ h => h) (Or.inl ⟨by rfl, ?_⟩) ?_ ?_
                                            rotate_left
                                            · intro w'
                                              go_simp
                                              with_reducible rfl
                                            rotate_left
                                            · simp only [Act.put, List.setIfInBounds_toArray, List.set_cons_zero, List.set_cons_succ, i64_w, i32_w]
                                              rfl
                                            refine pure_ (i := 7) (N := some 117) (v := ?_) (a' := ?_) #[true, true, true, true, true, true, true, true, false, false, false, false, false, false, false, false, false, false, false] rfl rfl (any_of HT_.out (by kernel_rfl)) (fun _ _ _ h => h) (Or.inl ⟨by rfl, ?_⟩) ?_ ?_
                                            rotate_left
                                            · intro w'
                                              go_simp
                                              with_reducible rfl
                                            rotate_left
                                            · simp only [Act.put, List.setIfInBounds_toArray, List.set_cons_zero, List.set_cons_succ, i64_w, i32_w]
                                              rfl
                                            refine pure_ (i := 8) (N := some 118) (v := ?_) (a' := ?_) #[true, true, true, true, true, true, true, true, true, false, false, false, false, false, false, false, false, false, false] rfl rfl (any_of HT_.out (by kernel_rfl)) (fun _ _ _ h => h) (Or.inl ⟨by rfl, ?_⟩) ?_ ?_
                                            rotate_left
                                            · intro w'
                                              go_simp
                                              with_reducible rfl
                                            rotate_left
                                            · simp only [Act.put, List.setIfInBounds_toArray, List.set_cons_zero, List.set_cons_succ, i64_w, i32_w]
                                              rfl
                                            refine pure_ (i := 9) (N := some 119) (v := ?_) (a' := ?_) #[true, true, true, true, true, true, true, true, true, true, false, false, false, false, false, false, false, false, false] rfl rfl (any_of HT_.out (by kernel_rfl)) (fun _ _ _ h => h) (Or.inl ⟨by rfl, ?_⟩) ?_ ?_
                                            rotate_left
                                            · intro w'
                                              go_simp
                                              with_reducible rfl
                                            rotate_left
                                            · simp only [Act.put, List.setIfInBounds_toArray, List.set_cons_zero, List.set_cons_succ, i64_w, i32_w]
                                              rfl
                                            refine pure_ (i := 10) (N := some 120) (v := ?_) (a' := ?_) #[true, true, true, true, true, true, true, true, true, true, true, false, false, false, false, false, false, false, false] rfl rfl (any_of HT_.out (by kernel_rfl)) (fun _ _ _ h => h) (Or.inl ⟨by rfl, ?_⟩) ?_ ?_
                                            rotate_left
                                            · intro w'
                                              go_simp
                                              with_reducible rfl
                                            rotate_left
                                            · simp only [Act.put, List.setIfInBounds_toArray, List.set_cons_zero, List.set_cons_succ, i64_w, i32_w]
                                              rfl
                                            refine pure_ (i := 11) (N := some 121) (v := ?_) (a' := ?_) #[true, true, true, true, true, true, true, true, true, true, true, true, false, false, false, false, false, false, false] rfl rfl (any_of HT_.out (by kernel_rfl)) (fun _ _ _ h => h) (Or.inl ⟨by rfl, ?_⟩) ?_ ?_
                                            rotate_left
                                            · intro w'
                                              go_simp
                                              with_reducible rfl
                                            rotate_left
                                            · simp only [Act.put, List.setIfInBounds_toArray, List.set_cons_zero, List.set_cons_succ, i64_w, i32_w]
                                              rfl
                                            refine pure_ (i := 13) (N := some 123) (v := ?_) (a' := ?_) #[true, true, true, true, true, true, true, true, true, true, true, true, false, true, false, false, false, false, false] rfl rfl (any_of HT_.out (by kernel_rfl)) (fun _ _ _ h => h) (Or.inl ⟨by rfl, ?_⟩) ?_ ?_
                                            rotate_left
                                            · intro w'
                                              go_simp
                                              with_reducible rfl
                                            rotate_left
                                            · simp only [Act.put, List.setIfInBounds_toArray, List.set_cons_zero, List.set_cons_succ, i64_w, i32_w]
                                              rfl
                                            refine pure_ (i := 14) (N := some 124) (v := ?_) (a' := ?_) #[true, true, true, true, true, true, true, true, true, true, true, true, false, true, true, false, false, false, false] rfl rfl (any_of HT_.out (by kernel_rfl)) (fun _ _ _ h => h) (Or.inl ⟨by rfl, ?_⟩) ?_ ?_
                                            rotate_left
                                            · intro w'
                                              go_simp
                                              with_reducible rfl
                                            rotate_left
                                            · simp only [Act.put, List.setIfInBounds_toArray, List.set_cons_zero, List.set_cons_succ, i64_w, i32_w]
                                              rfl
                                            refine pure_ (i := 15) (N := some 125) (v := ?_) (a' := ?_) #[true, true, true, true, true, true, true, true, true, true, true, true, false, true, true, true, false, false, false] rfl rfl (any_of HT_.out (by kernel_rfl)) (fun _ _ _ h => h) (Or.inl ⟨by rfl, ?_⟩) ?_ ?_
                                            rotate_left
                                            · intro w'
                                              go_simp
                                              with_reducible rfl
                                            rotate_left
                                            · simp only [Act.put, List.setIfInBounds_toArray, List.set_cons_zero, List.set_cons_succ, i64_w, i32_w]
                                              rfl
                                            refine take_ (i := 12) (N := some 122) (v := ?_) (a' := ?_) #[true, true, true, true, true, true, true, true, true, true, true, true, true, true, true, true, false, false, false] rfl rfl (take_ofW HT_.out HW_.out (by kernel_rfl)) (fun _ _ _ h => h) (Or.inl ⟨by rfl, ?_⟩) hHeld ?_ ?_
                                            rotate_left
                                            · rintro w' ⟨s0, s1, s2, s3, s4, s5⟩
                                              go_simp
                                              with_reducible rfl
                                            rotate_left
                                            · simp only [Act.put, List.setIfInBounds_toArray, List.set_cons_zero, List.set_cons_succ, i64_w, i32_w]
                                              rfl
                                            refine take_ (i := 16) (N := some 126) (v := ?_) (a' := ?_) #[true, true, true, true, true, true, true, true, true, true, true, true, true, true, true, true, true, false, false] rfl rfl (take_ofW HT_.out HW_.out (by kernel_rfl)) (fun _ _ _ h => h) (Or.inl ⟨by rfl, ?_⟩) hHeld ?_ ?_
                                            rotate_left
                                            · rintro w' ⟨s0, s1, s2, s3, s4, s5⟩
                                              go_simp
                                              with_reducible rfl
                                            rotate_left
                                            · simp only [Act.put, List.setIfInBounds_toArray, List.set_cons_zero, List.set_cons_succ, i64_w, i32_w]
                                              rfl
                                            refine pure_ (i := 17) (N := some 127) (v := ?_) (a' := ?_) #[true, true, true, true, true, true, true, true, true, true, true, true, true, true, true, true, true, true, false] rfl rfl (any_of HT_.out (by kernel_rfl)) (fun _ _ _ h => h) (Or.inl ⟨by rfl, ?_⟩) ?_ ?_
                                            rotate_left
                                            · intro w'
                                              go_simp
                                              with_reducible rfl
                                            rotate_left
                                            · simp only [Act.put, List.setIfInBounds_toArray, List.set_cons_zero, List.set_cons_succ, i64_w, i32_w]
                                              rfl
                                            refine pure_ (i := 18) (N := some 128) (v := ?_) (a' := ?_) #[true, true, true, true, true, true, true, true, true, true, true, true, true, true, true, true, true, true, true] rfl rfl (any_of HT_.out (by kernel_rfl)) (fun _ _ _ h => h) (Or.inl ⟨by rfl, ?_⟩) ?_ ?_
                                            rotate_left
                                            · intro w'
                                              go_simp
                                              with_reducible rfl
                                            rotate_left
                                            · simp only [Act.put, List.setIfInBounds_toArray, List.set_cons_zero, List.set_cons_succ, i64_w, i32_w]
                                              rfl
                                            refine done_ (done_of HT_.out (by kernel_rfl)) ?_
                                            try go_wp2
                                            go_roundg k1
                                            case measure => have := HK1.out; omega
                                            case rel => exact ⟨(x17_1), (wrap64 (x18_1 + 1)), (by first | rfl | (simp; done) | (simp [*]; done)), (by first | rfl | (simp; done) | (simp [*]; done)), H', ⟨by have := HK1.out; omega⟩, ⟨by (with_reducible repeat (first | apply Kd.R_alloc | apply Kd.R_drewN | apply Kd.R_drew)); exact HO_15.out⟩, ⟨by (with_reducible repeat (first | apply Kd.R_alloc | apply Kd.R_drewN | apply Kd.R_drew)); exact HO_16.out⟩, ⟨by (with_reducible repeat (first | refine blk_drewN ?_ _ | refine blk_drew ?_ | refine blk_alloc ?_ _)); exact BK336.out⟩, ⟨by repeat (first | (with_reducible first | exact HB.out | apply below_alloc | apply pw_below_drewN | apply below_drew1 | refine below_set ?_ GE336.out) | exact HB.out)⟩⟩
                                        · rw [if_neg c61] at H
                                          exact absurd H (by simp)
                                      · rw [if_neg c60] at H
                                        exact absurd H (by simp)
                                · rw [if_neg c52] at H
                                  exact absurd H (by simp)
                              · rw [if_neg c51] at H
                                have c51b0 : decide (x18_1 < (t356.length : Int)) = false := decide_eq_false c51
                                clear c51
                                by_cases c67 : t325 = true
                                · subst c67
                                  have H1 : (some (x17_1 == 1)) = some r := by rw [if_pos rfl] at H; exact H
                                  clear H
                                  have H := H1
                                  clear H1
                                  obtain rfl := Option.some.inj H
                                  go_wp2
                                  go_ret
                                  exact ⟨by first | rfl | (simp [errW_none, errW_some] <;> rfl) | (simp only [← hji12]; first | rfl | (simp [errW_none, errW_some] <;> rfl)) | (simp [*, errW_none, errW_some] <;> rfl), by repeat (first | (with_reducible first | exact HB.out | apply below_alloc | apply pw_below_drewN | apply below_drew1 | refine below_set ?_ GE336.out) | exact HB.out)⟩
                                · replace c67 := Bool.eq_false_iff.mpr c67
                                  subst c67
                                  have H1 : (some false) = some r := by rw [if_neg (show ¬ (false = true) by decide)] at H; exact H
                                  clear H
                                  have H := H1
                                  clear H1
                                  obtain rfl := Option.some.inj H
                                  go_wp2
                                  go_ret
                                  exact ⟨by first | rfl | (simp [errW_none, errW_some] <;> rfl) | (simp only [← hji12]; first | rfl | (simp [errW_none, errW_some] <;> rfl)) | (simp [*, errW_none, errW_some] <;> rfl), by repeat (first | (with_reducible first | exact HB.out | apply below_alloc | apply pw_below_drewN | apply below_drew1 | refine below_set ?_ GE336.out) | exact HB.out)⟩
                        · rw [if_neg c30] at H
                          have c30b0 : ((t356.length : Int) == (wrap64 ((t359.length : Int) + 1))) = false := beq_eq_false_iff_ne.mpr c30
                          have c30b1 : ((t356.length : Int) != (wrap64 ((t359.length : Int) + 1))) = true := bne_iff_ne.mpr c30
                          obtain rfl := Option.some.inj H
                          go_enter Tryd.func6, Tryd.ntmps6
                          try go_wp2_with (first | ((with_reducible refine gate_callee (f := 15) rfl ?_); refine goesL_ (some 19) rfl rfl Tryd.func15 (by kernel_rfl) rfl #[] rfl (by (try simp only [List.map_toArray, List.map_cons, List.map_nil]); first | done | rfl | (simp only [List.length_drop, List.length_take]; rfl)) ?_; (with_reducible refine (lockfastlaw11_awake.calls k  t325 _ A4.out).mono ?_); rintro e w68 ⟨rfl, hb⟩; refine ⟨_, rfl, ?_⟩; have n0_ := Aside0.mk (below_step (by repeat (first | (with_reducible first | exact HB.out | apply below_alloc | apply pw_below_drewN | apply below_drew1) | exact HB.out)) hb); clear HB; have HB := n0_; clear n0_; (try clear hb); (try clear hb2); (try clear hk); (try clear hi)) | ((with_reducible refine gate_callee (f := 20) rfl ?_); refine goesL_ (some 25) rfl rfl Tryd.func20 (by kernel_rfl) rfl #[.slice A0 l0.length c0, .int .i64 40] rfl (by (try simp only [List.map_toArray, List.map_cons, List.map_nil]); first | done | rfl | (simp only [List.length_drop, List.length_take]; rfl)) ?_; (with_reducible refine (lockfastref11_Made.calls k _ _ l0 40 t326 _ ?side1 ?side2 A7.out).mono ?_); (case side1 => repeat (first | exact (Kd.C_below HR0.out HB.out) | (with_reducible refine Kd.C_alloc ?_ _) | (with_reducible refine Kd.C_drewN ?_ _) | (with_reducible refine Kd.C_drew ?_))); (case side2 => exact HC0.out); rintro e w69 ⟨v327, rfl, ho0, hb⟩; refine ⟨_, rfl, ?_⟩; have n0_ := Aside0.mk (Kd.R_lower ho0 (below_size (by repeat (first | (with_reducible first | exact HB.out | apply below_alloc | apply pw_below_drewN | apply below_drew1) | exact HB.out)))); have n1_ := Aside0.mk (below_step (by repeat (first | (with_reducible first | exact HB.out | apply below_alloc | apply pw_below_drewN | apply below_drew1) | exact HB.out)) hb); clear HB; have HO328 := n0_; have HB := n1_; clear n0_ n1_; (try clear hb); (try clear hb2); (try clear hk); (try clear hi); (try clear ho0); obtain ⟨Ao70, co70, eo70⟩ := Kd.R_slice HO328.out; subst eo70; have p329 : 0 ≤ ((ji12) : Int) := of_decide_eq_true (by first | (with_reducible assumption) | assumption); have q329 : (ji12) < (t326.length : Int) := of_decide_eq_true (by first | (with_reducible assumption) | assumption); obtain ⟨ad329, e329, hx329_0⟩ := Kd.at_int (Kd.R_reads' HO328.out).2.2 (ji12) p329 q329; cases e329; replace p329 := eq_true p329; replace q329 := eq_true q329) | ((with_reducible refine gate_callee (f := 25) rfl ?_); refine goesL_ (some 40) rfl rfl Tryd.func25 (by kernel_rfl) rfl #[.int .u64 (rd t326 (ji12))] rfl (by (try simp only [List.map_toArray, List.map_cons, List.map_nil]); first | done | (simp only [hji12]; rfl) | rfl | (simp only [List.length_drop, List.length_take]; rfl)) ?_; (with_reducible refine (chunk_Decode.calls (rd t326 (ji12)) t330 t331 t332 t333 t334 true _ A15.out).mono ?_); rintro e w71 ⟨rfl, hb⟩; refine ⟨_, rfl, ?_⟩; have n0_ := Aside0.mk (Kd.R_below (by (with_reducible repeat (first | apply Kd.R_alloc | apply Kd.R_drewN | apply Kd.R_drew)); exact HO328.out) hb); have n1_ := Aside0.mk (below_step (by repeat (first | (with_reducible first | exact HB.out | apply below_alloc | apply pw_below_drewN | apply below_drew1) | exact HB.out)) hb); clear HO328; clear HB; have HO328 := n0_; have HB := n1_; clear n0_ n1_; (try clear hb); (try clear hb2); (try clear hk); (try clear hi)) | ((with_reducible refine gate_dst (N := 10) rfl ?_); refine box_event ?hg (N := 10) ?hd (cs := #[.int .i64 0, .int .i64 0, .int .i64 0, .int .i64 0, .int .u64 0]) (t := 29) ?hr ?_; (case hd => rfl); (case hg => rfl); (case hr => first | (go_simp; done) | (go_simp; rfl)); intro gb336 hg w72 hbox hb; have n0_ := Aside0.mk (Kd.R_below (by (with_reducible repeat (first | apply Kd.R_alloc | apply Kd.R_drewN | apply Kd.R_drew)); exact HO328.out) hb); have n1_ := Aside0.mk (below_step (by repeat (first | (with_reducible first | exact HB.out | apply below_alloc | apply pw_below_drewN | apply below_drew1) | exact HB.out)) hb); have n2_ := Aside0.mk (hbox); have n3_ := Aside0.mk ((by rw [hg]; exact (below_size (by repeat (first | (with_reducible first | exact HB.out | apply below_alloc | apply pw_below_drewN | apply below_drew1) | exact HB.out))) : w.heap.size ≤ gb336)); have n4_ := Aside0.mk ((by rw [hg]; exact (below_size (by repeat (first | (with_reducible first | exact HB.out | apply below_alloc | apply pw_below_drewN | apply below_drew1) | exact HB.out))) : w.heap.size ≤ gb336)); clear HO328; clear HB; have HO328 := n0_; have HB := n1_; have BK336 := n2_; have GW336 := n3_; have GE336 := n4_; clear n0_ n1_ n2_ n3_ n4_; clear hb hbox hg; have hcz73_0 : w72.cell? ⟨gb336, 0, none⟩ = some (.int .i64 0) := (blk_cell BK336.out 0).trans rfl; have hcz73_1 : w72.cell? ⟨gb336, 1, none⟩ = some (.int .i64 0) := (blk_cell BK336.out 1).trans rfl; have hcz73_2 : w72.cell? ⟨gb336, 2, none⟩ = some (.int .i64 0) := (blk_cell BK336.out 2).trans rfl; have hcz73_3 : w72.cell? ⟨gb336, 3, none⟩ = some (.int .i64 0) := (blk_cell BK336.out 3).trans rfl; have hcz73_4 : w72.cell? ⟨gb336, 4, none⟩ = some (.int .u64 0) := (blk_cell BK336.out 4).trans rfl; have hfz73_0 := blk_frozen BK336.out 0; have hfz73_1 := blk_frozen BK336.out 1; have hfz73_2 := blk_frozen BK336.out 2; have hfz73_3 := blk_frozen BK336.out 3; have hfz73_4 := blk_frozen BK336.out 4) | ((with_reducible refine gate_callee (f := 26) rfl ?_); refine goesL_ (some 53) rfl rfl Tryd.func26 (by kernel_rfl) rfl #[.int .i64 t331] rfl (by (try simp only [List.map_toArray, List.map_cons, List.map_nil]); first | done | rfl | (simp only [List.length_drop, List.length_take]; rfl)) ?_; (with_reducible refine (lockfastref09_Many.calls k t331 t337 _ A18.out).mono ?_); rintro e w' ⟨rfl, ⟨nd, rfl⟩⟩; refine ⟨_, rfl, ?_⟩) | ((with_reducible refine gate_dst (N := 55) rfl ?_); refine Kd.R_lit (Kd.int .u64) _ 27 ?hg (N := 55) ?hd (xs := ([] : List Int)) (inner := []) (ok := fun _ => True) (okp := fun _ => True) ?hr ?hp (fun _ hk => hk) trivial (Below.refl _ _) (Nat.le_refl _) (by simp) ?_; (case hd => rfl); (case hg => rfl); (case hr => first | (go_simp; done) | (go_simp; rfl)); (case hp => exact (Reps.none _ _)); intro v339 w74 ho75 hb hg_ hnew_; clear hg_ hnew_; (first | rw [← Ny338.out] at ho75 | (simp only [Int.reduceToNat] at ho75; rw [← Ny338.out] at ho75)); have n0_ := Aside0.mk (Kd.R_elder' (by (with_reducible repeat (first | apply Kd.R_alloc | apply Kd.R_drewN | apply Kd.R_drew)); exact (Kd.R_mono (Kd.R_far (p := ⟨gb336, 4, none⟩) (Kd.R_far (p := ⟨gb336, 3, none⟩) (Kd.R_far (p := ⟨gb336, 2, none⟩) (Kd.R_far (p := ⟨gb336, 1, none⟩) (Kd.R_far (p := ⟨gb336, 0, none⟩) (Kd.R_types HO328.out BK336.out (by decide)) (fun _ hk => hk.2) (.int .i64 t330)) (fun _ hk => hk.2) (.int .i64 t331)) (fun _ hk => hk.2) (.int .i64 t332)) (fun _ hk => hk.2) (.int .i64 t333)) (fun _ hk => hk.2) (.int .u64 t334)) (fun _ h_ => h_.1))) (Kd.R_base ho75) hb); have n1_ := Aside0.mk (Kd.R_lower (Kd.R_new' ho75 (Kd.R_lt (by (with_reducible repeat (first | apply Kd.R_alloc | apply Kd.R_drewN | apply Kd.R_drew)); exact (Kd.R_mono (Kd.R_far (p := ⟨gb336, 4, none⟩) (Kd.R_far (p := ⟨gb336, 3, none⟩) (Kd.R_far (p := ⟨gb336, 2, none⟩) (Kd.R_far (p := ⟨gb336, 1, none⟩) (Kd.R_far (p := ⟨gb336, 0, none⟩) (Kd.R_types HO328.out BK336.out (by decide)) (fun _ hk => hk.2) (.int .i64 t330)) (fun _ hk => hk.2) (.int .i64 t331)) (fun _ hk => hk.2) (.int .i64 t332)) (fun _ hk => hk.2) (.int .i64 t333)) (fun _ hk => hk.2) (.int .u64 t334)) (fun _ h_ => h_.1))))) (below_size (by repeat (first | (with_reducible first | exact HB.out | apply below_alloc | apply pw_below_drewN | apply below_drew1 | refine below_set ?_ GE336.out) | exact HB.out)))); have n2_ := Aside0.mk (blk_below (g := gb336) (o := .cells #[.int .i64 t330, .int .i64 t331, .int .i64 t332, .int .i64 t333, .int .u64 t334] 29 (0, 0)) (by (with_reducible repeat (first | refine blk_drewN ?_ _ | refine blk_drew ?_ | refine blk_alloc ?_ _)); refine blk_put (cs := #[.int .i64 t330, .int .i64 t331, .int .i64 t332, .int .i64 t333, .int .u64 0]) ?_ 4 _ rfl; (with_reducible repeat (first | refine blk_drewN ?_ _ | refine blk_drew ?_ | refine blk_alloc ?_ _)); refine blk_put (cs := #[.int .i64 t330, .int .i64 t331, .int .i64 t332, .int .i64 0, .int .u64 0]) ?_ 3 _ rfl; (with_reducible repeat (first | refine blk_drewN ?_ _ | refine blk_drew ?_ | refine blk_alloc ?_ _)); refine blk_put (cs := #[.int .i64 t330, .int .i64 t331, .int .i64 0, .int .i64 0, .int .u64 0]) ?_ 2 _ rfl; (with_reducible repeat (first | refine blk_drewN ?_ _ | refine blk_drew ?_ | refine blk_alloc ?_ _)); refine blk_put (cs := #[.int .i64 t330, .int .i64 0, .int .i64 0, .int .i64 0, .int .u64 0]) ?_ 1 _ rfl; (with_reducible repeat (first | refine blk_drewN ?_ _ | refine blk_drew ?_ | refine blk_alloc ?_ _)); refine blk_put (cs := #[.int .i64 0, .int .i64 0, .int .i64 0, .int .i64 0, .int .u64 0]) ?_ 0 _ rfl; (with_reducible repeat (first | refine blk_drewN ?_ _ | refine blk_drew ?_ | refine blk_alloc ?_ _)); exact BK336.out) hb); have n3_ := Aside0.mk (below_step (by repeat (first | (with_reducible first | exact HB.out | apply below_alloc | apply pw_below_drewN | apply below_drew1 | refine below_set ?_ GE336.out) | exact HB.out)) hb); clear HO328; clear BK336; clear HB; have HO328 := n0_; have HO340 := n1_; have BK336 := n2_; have HB := n3_; clear n0_ n1_ n2_ n3_; clear hb ho75) | ((with_reducible refine gate_builtin (b := .append) (xs := #[.tmp 55, .tmp 56]) rfl ?_); at_builtin; refine Kd.R_append_rows (Kd.int .u64) (w0 := w) w.heap.size rfl (.tmp 55) (.tmp 56) 22 27 (.int .u64 0) 8 rfl Tryd.underlying22 info27 rfl (by decide) (by omega) v339 y338 t326 _ _ _ (fun k_ => some k_ ≠ (.slice (some ad329) t326.length co70 : Value).ownBlock) (fun _ => False) rfl rfl ?aO ?aR (fun _ _ h => h) (fun _ h => h.elim) ?aF ?aB ?aS ?aL ?_; (case aR => repeat (first | exact (Kd.R_reads' HO328.out).2.2 | (with_reducible refine Kd.C_alloc ?_ _) | (with_reducible refine Kd.C_drewN ?_ _) | (with_reducible refine Kd.C_drew ?_))); (case aB => exact (by repeat (first | (with_reducible first | exact HB.out | apply below_alloc | apply pw_below_drewN | apply below_drew1 | refine below_set ?_ GE336.out) | exact HB.out))); (case aF => exact (fun k_ hk => Kd.fresh' (Kd.R_lt (by (with_reducible repeat (first | apply Kd.R_alloc | apply Kd.R_drewN | apply Kd.R_drew)); exact HO328.out)) k_ hk)); (case aO => exact (by (with_reducible repeat (first | apply Kd.R_alloc | apply Kd.R_drewN | apply Kd.R_drew)); exact Kd.R_mono HO340.out (fun _ hk => hk.2))); (case aS => exact (below_size (by repeat (first | (with_reducible first | exact HB.out | apply below_alloc | apply pw_below_drewN | apply below_drew1 | refine below_set ?_ GE336.out) | exact HB.out)))); (case aL => have := LMc20.out; omega); intro v342 w76 ho hb hg hat; rw [← Ny341.out] at ho; have n0_ := Aside0.mk (Kd.R_after (ok := (fun _ => True)) (by (with_reducible repeat (first | apply Kd.R_alloc | apply Kd.R_drewN | apply Kd.R_drew)); exact HO328.out) hg hat); have n1_ := Aside0.mk (blk_grown (g := gb336) (o := .cells #[.int .i64 t330, .int .i64 t331, .int .i64 t332, .int .i64 t333, .int .u64 t334] 29 (0, 0)) (by (with_reducible repeat (first | refine blk_drewN ?_ _ | refine blk_drew ?_ | refine blk_alloc ?_ _)); exact BK336.out) hg (Kd.R_ne HO340.out BK336.out (by decide))); have n2_ := Aside0.mk (hb); have n3_ := Aside0.mk (ho); clear HO328; clear BK336; clear HB; clear HO340; have HO328 := n0_; have BK336 := n1_; have HB := n2_; have HO343 := n3_; clear n0_ n1_ n2_ n3_; clear ho hb hg hat))
                          have n0_ := Aside0.mk (Kd.R_drew HO328.out)
                          have n1_ := Aside0.mk (Kd.R_drew HO343.out)
                          have n2_ := Aside0.mk (blk_drew BK336.out)
                          have n3_ := Aside0.mk (below_drew1 HB.out)
                          clear HO328
                          clear HO343
                          clear BK336
                          clear HB
                          have HO328 := n0_
                          have HO343 := n1_
                          have BK336 := n2_
                          have HB := n3_
                          clear n0_ n1_ n2_ n3_
                          have p344 : 0 ≤ ((ji12) : Int) := of_decide_eq_true (by first | (with_reducible assumption) | assumption)
                          have q344 : (ji12) < (t326.length : Int) := of_decide_eq_true (by first | (with_reducible assumption) | assumption)
                          obtain ⟨ad344, e344, hx344_0⟩ := Kd.at_int (Kd.R_reads' HO328.out).2.2 (ji12) p344 q344
                          obtain rfl : ad329 = ad344 := (by injection e344)
                          replace p344 := eq_true p344
                          replace q344 := eq_true q344
                          refine start_ (n := 11) (S := fun w' => w'.cell? (ad329.add ((ji12)).toNat) = some (.int .u64 (rd t326 (ji12)))) (ds := [10]) #[false, false, false, false, false, false, false, false, false, false, false] (by kernel_rfl) rfl rfl (hx344_0) (fun hHeld => ?_); refine with_tabW lockfastlaw11_TileOne.tab15 lockfastlaw11_TileOne.bits15 (fun HT_ HW_ => ?_)
                          generalize w76.drew = w77 at HO328 HO343 BK336 HB hx344_0 hHeld ⊢
                          refine pure_ (i := 0) (N := some 58) (v := ?_) (a' := ?_) #[true, false, false, false, false, false, false, false, false, false, false] rfl rfl (any_of HT_.out (by kernel_rfl)) (fun _ _ _ h => h) (Or.inl ⟨by rfl, ?_⟩) ?_ ?_
                          rotate_left
                          · intro w'
                            go_simp
                            with_reducible rfl
                          rotate_left
                          · simp only [Act.put, List.setIfInBounds_toArray, List.set_cons_zero, List.set_cons_succ, i64_w, i32_w]
                            rfl
                          refine pure_ (i := 1) (N := some 59) (v := ?_) (a' := ?_) #[true, true, false, false, false, false, false, false, false, false, false] rfl rfl (any_of HT_.out (by kernel_rfl)) (fun _ _ _ h => h) (Or.inl ⟨by rfl, ?_⟩) ?_ ?_
                          rotate_left
                          · intro w'
                            go_simp
                            with_reducible rfl
                          rotate_left
                          · simp only [Act.put, List.setIfInBounds_toArray, List.set_cons_zero, List.set_cons_succ, i64_w, i32_w]
                            rfl
                          refine pure_ (i := 2) (N := some 60) (v := ?_) (a' := ?_) #[true, true, true, false, false, false, false, false, false, false, false] rfl rfl (any_of HT_.out (by kernel_rfl)) (fun _ _ _ h => h) (Or.inl ⟨by rfl, ?_⟩) ?_ ?_
                          rotate_left
                          · intro w'
                            go_simp
                            with_reducible rfl
                          rotate_left
                          · simp only [Act.put, List.setIfInBounds_toArray, List.set_cons_zero, List.set_cons_succ, i64_w, i32_w]
                            rfl
                          refine pure_ (i := 3) (N := some 61) (v := ?_) (a' := ?_) #[true, true, true, true, false, false, false, false, false, false, false] rfl rfl (any_of HT_.out (by kernel_rfl)) (fun _ _ _ h => h) (Or.inl ⟨by rfl, ?_⟩) ?_ ?_
                          rotate_left
                          · intro w'
                            go_simp
                            with_reducible rfl
                          rotate_left
                          · simp only [Act.put, List.setIfInBounds_toArray, List.set_cons_zero, List.set_cons_succ, i64_w, i32_w]
                            rfl
                          refine pure_ (i := 4) (N := some 62) (v := ?_) (a' := ?_) #[true, true, true, true, true, false, false, false, false, false, false] rfl rfl (any_of HT_.out (by kernel_rfl)) (fun _ _ _ h => h) (Or.inl ⟨by rfl, ?_⟩) ?_ ?_
                          rotate_left
                          · intro w'
                            go_simp
                            with_reducible rfl
                          rotate_left
                          · simp only [Act.put, List.setIfInBounds_toArray, List.set_cons_zero, List.set_cons_succ, i64_w, i32_w]
                            rfl
                          refine pure_ (i := 6) (N := some 64) (v := ?_) (a' := ?_) #[true, true, true, true, true, false, true, false, false, false, false] rfl rfl (any_of HT_.out (by kernel_rfl)) (fun _ _ _ h => h) (Or.inl ⟨by rfl, ?_⟩) ?_ ?_
                          rotate_left
                          · intro w'
                            go_simp
                            with_reducible rfl
                          rotate_left
                          · simp only [Act.put, List.setIfInBounds_toArray, List.set_cons_zero, List.set_cons_succ, i64_w, i32_w]
                            rfl
                          refine take_ (i := 5) (N := some 63) (v := ?_) (a' := ?_) #[true, true, true, true, true, true, true, false, false, false, false] rfl rfl (take_ofW HT_.out HW_.out (by kernel_rfl)) (fun _ _ _ h => h) (Or.inl ⟨by rfl, ?_⟩) hHeld ?_ ?_
                          rotate_left
                          · intro w' s0
                            go_simp
                            with_reducible rfl
                          rotate_left
                          · simp only [Act.put, List.setIfInBounds_toArray, List.set_cons_zero, List.set_cons_succ, i64_w, i32_w]
                            rfl
                          refine one_ (i := 7) (N := some 65) #[true, true, true, true, true, true, true, true, false, false, false] rfl rfl (one_of HT_.out (by kernel_rfl)) (by decide) (fun K hK => ?_)
                          refine goes_ Tryd.func27 (by kernel_rfl) rfl #[.int .i64 (Int.tmod (wrap64 (a2)) t337)] (by rfl) rfl rfl (by (try simp only [List.map_toArray, List.map_cons, List.map_nil]); first | done | rfl | (simp only [List.length_drop, List.length_take]; rfl)) ?_
                          with_reducible refine (chunk_Bit.calls (Int.tmod (wrap64 (a2)) t337) t345 _ A21.out).mono ?_
                          rintro e w' ⟨rfl, ⟨nd, rfl⟩⟩
                          refine ⟨_, rfl, ?_⟩
                          have p23 : 0 ≤ ((ji12) : Int) := of_decide_eq_true (by first | (with_reducible assumption) | assumption)
                          have q23 : ((ji12) : Int) < ((y341.length : Int) : Int) := of_decide_eq_true (by first | (with_reducible assumption) | assumption)
                          obtain ⟨go23, co23, eo23, gb23, gl23, cl23, HG23⟩ := Kd.R_form HO343.out (by omega)
                          (first | cases eo23 | (injection eo23 with ea_ en_ ec_; (first | subst ea_ | (injection ea_ with ea_; subst ea_)); subst ec_; clear en_))
                          have GB23 := Aside0.mk gb23
                          have GG23 := Aside0.mk HG23
                          clear gb23 gl23 HG23
                          obtain ⟨hx23_0, hf23_0⟩ := Kd.R_celln 0 HO343.out ((ji12) : Int) p23 q23
                          replace p23 := eq_true p23
                          replace q23 := eq_true q23
                          have HP78 := Kd.R_putn HO343.out ((ji12) : Int) (Go.bits .or .u64 (rd t326 (ji12)) t345)
                          rw [← Ny346.out] at HP78
                          have HQ78 := Aside0.mk HP78
                          clear HP78
                          refine hK.out _ _ (hHeld) (fun hHeld => ?_)
                          clear hK K
                          refine norm_ (a' := ?_) ?_ ?_
                          rotate_left
                          · show Act.put _ (some 65) _ = _
                            simp only [Act.put, List.setIfInBounds_toArray, List.set_cons_zero, List.set_cons_succ, i64_w, i32_w]
                            rfl
                          refine pure_ (i := 8) (N := some 66) (v := ?_) (a' := ?_) #[true, true, true, true, true, true, true, true, true, false, false] rfl rfl (any_of HT_.out (by kernel_rfl)) (fun _ _ _ h => h) (Or.inl ⟨by rfl, ?_⟩) ?_ ?_
                          rotate_left
                          · intro w'
                            go_simp
                            with_reducible rfl
                          rotate_left
                          · simp only [Act.put, List.setIfInBounds_toArray, List.set_cons_zero, List.set_cons_succ, i64_w, i32_w]
                            rfl
                          refine pure_ (i := 9) (N := some 67) (v := ?_) (a' := ?_) #[true, true, true, true, true, true, true, true, true, true, false] rfl rfl (any_of HT_.out (by kernel_rfl)) (fun _ _ _ h => h) (Or.inl ⟨by rfl, ?_⟩) ?_ ?_
                          rotate_left
                          · intro w'
                            go_simp
                            with_reducible rfl
                          rotate_left
                          · simp only [Act.put, List.setIfInBounds_toArray, List.set_cons_zero, List.set_cons_succ, i64_w, i32_w]
                            rfl
                          refine last_ (i := 10) (N := none) #[true, true, true, true, true, true, true, true, true, true, true] rfl rfl (one_of HT_.out (by kernel_rfl)) (by decide) (fun K hK => ?_)
                          refine skip_ (w1 := ?_) (by rfl) rfl ?_ ?_
                          rotate_left
                          · go_simp
                            rfl
                          refine hK.out _ _ ?_
                          clear hK K
                          refine done_ (done_of HT_.out (by kernel_rfl)) ?_
                          try go_wp2_with (first | ((with_reducible refine gate_dst (N := 68) rfl ?_); refine Kd.R_lit (Kd.int .u64) _ 27 ?hg (N := 68) ?hd (xs := ([] : List Int)) (inner := []) (ok := fun _ => True) (okp := fun _ => True) ?hr ?hp (fun _ hk => hk) trivial (Below.refl _ _) (Nat.le_refl _) (by simp) ?_; (case hd => rfl); (case hg => rfl); (case hr => first | (go_simp; done) | (go_simp; rfl)); (case hp => exact (Reps.none _ _)); intro v348 w79 ho80 hb hg_ hnew_; clear hg_ hnew_; (first | rw [← Ny347.out] at ho80 | (simp only [Int.reduceToNat] at ho80; rw [← Ny347.out] at ho80)); have n0_ := Aside0.mk (Kd.R_elder' (by (with_reducible repeat (first | apply Kd.R_alloc | apply Kd.R_drewN | apply Kd.R_drew)); exact (Kd.R_mono (Kd.R_far (p := ⟨go23, ((ji12) : Int).toNat, none⟩) (Kd.R_mono HO328.out (fun k_ hk => (⟨hk, fun e_ => hk.2 (by rw [e_]; rfl)⟩ : _ ∧ k_ ≠ go23))) (fun _ hk => hk.2) (.int .u64 (Go.bits .or .u64 (rd t326 (ji12)) t345))) (fun _ h_ => h_.1))) (Kd.R_base ho80) hb); have n1_ := Aside0.mk (Kd.R_elder' (by (with_reducible repeat (first | apply Kd.R_alloc | apply Kd.R_drewN | apply Kd.R_drew)); exact HQ78.out) (Kd.R_base ho80) hb); have n2_ := Aside0.mk (Kd.R_lower (Kd.R_new' (Kd.R_new' ho80 (Kd.R_lt (by (with_reducible repeat (first | apply Kd.R_alloc | apply Kd.R_drewN | apply Kd.R_drew)); exact (Kd.R_mono (Kd.R_far (p := ⟨go23, ((ji12) : Int).toNat, none⟩) (Kd.R_mono HO328.out (fun k_ hk => (⟨hk, fun e_ => hk.2 (by rw [e_]; rfl)⟩ : _ ∧ k_ ≠ go23))) (fun _ hk => hk.2) (.int .u64 (Go.bits .or .u64 (rd t326 (ji12)) t345))) (fun _ h_ => h_.1))))) (Kd.R_lt (by (with_reducible repeat (first | apply Kd.R_alloc | apply Kd.R_drewN | apply Kd.R_drew)); exact HQ78.out))) (below_size (by repeat (first | (with_reducible first | exact HB.out | apply below_alloc | apply pw_below_drewN | apply below_drew1 | refine below_set ?_ GB23.out | refine below_set ?_ GE336.out) | exact HB.out)))); have n3_ := Aside0.mk (blk_below (g := gb336) (o := .cells #[.int .i64 t330, .int .i64 t331, .int .i64 t332, .int .i64 t333, .int .u64 t334] 29 (0, 0)) (by (with_reducible repeat (first | refine blk_drewN ?_ _ | refine blk_drew ?_ | refine blk_alloc ?_ _)); refine blk_far ?_ (by have h_ := Kd.R_ne HO343.out BK336.out (by decide); intro e_; exact h_ (by rw [e_]; rfl)) _; (with_reducible repeat (first | refine blk_drewN ?_ _ | refine blk_drew ?_ | refine blk_alloc ?_ _)); exact BK336.out) hb); have n4_ := Aside0.mk (below_step (by repeat (first | (with_reducible first | exact HB.out | apply below_alloc | apply pw_below_drewN | apply below_drew1 | refine below_set ?_ GB23.out | refine below_set ?_ GE336.out) | exact HB.out)) hb); clear HO328; clear HO343; clear BK336; clear HB; have HO328 := n0_; have HO343 := n1_; have HO349 := n2_; have BK336 := n3_; have HB := n4_; clear n0_ n1_ n2_ n3_ n4_; clear hb ho80) | ((with_reducible refine gate_builtin (b := .append) (xs := #[.tmp 68, .tmp 69]) rfl ?_); at_builtin; refine Kd.R_append_rows (Kd.int .u64) (w0 := w) w.heap.size rfl (.tmp 68) (.tmp 69) 22 27 (.int .u64 0) 8 rfl Tryd.underlying22 info27 rfl (by decide) (by omega) v348 y347 t326 _ _ _ (fun k_ => some k_ ≠ (.slice (some ad329) t326.length co70 : Value).ownBlock ∧ some k_ ≠ (.slice (some ⟨go23, 0, none⟩) y341.length co23 : Value).ownBlock) (fun _ => False) rfl rfl ?aO ?aR (fun _ _ h => h) (fun _ h => h.elim) ?aF ?aB ?aS ?aL ?_; (case aR => repeat (first | exact (Kd.R_reads' HO328.out).2.2 | (with_reducible refine Kd.C_alloc ?_ _) | (with_reducible refine Kd.C_drewN ?_ _) | (with_reducible refine Kd.C_drew ?_))); (case aB => exact (by repeat (first | (with_reducible first | exact HB.out | apply below_alloc | apply pw_below_drewN | apply below_drew1 | refine below_set ?_ GE336.out) | exact HB.out))); (case aF => exact (fun k_ hk => ⟨Kd.fresh' (Kd.R_lt (by (with_reducible repeat (first | apply Kd.R_alloc | apply Kd.R_drewN | apply Kd.R_drew)); exact HO328.out)) k_ hk, Kd.fresh' (Kd.R_lt (by (with_reducible repeat (first | apply Kd.R_alloc | apply Kd.R_drewN | apply Kd.R_drew)); exact HO343.out)) k_ hk⟩)); (case aO => exact (by (with_reducible repeat (first | apply Kd.R_alloc | apply Kd.R_drewN | apply Kd.R_drew)); exact Kd.R_mono HO349.out (fun _ hk => ⟨hk.1.2, hk.2⟩))); (case aS => exact (below_size (by repeat (first | (with_reducible first | exact HB.out | apply below_alloc | apply pw_below_drewN | apply below_drew1 | refine below_set ?_ GE336.out) | exact HB.out)))); (case aL => have := LMc24.out; omega); intro v351 w81 ho hb hg hat; rw [← Ny350.out] at ho; have n0_ := Aside0.mk (Kd.R_after (ok := (fun k_ => some k_ ≠ (.slice (some ⟨go23, 0, none⟩) y341.length co23 : Value).ownBlock)) (by (with_reducible repeat (first | apply Kd.R_alloc | apply Kd.R_drewN | apply Kd.R_drew)); exact Kd.R_mono HO328.out (fun _ hk => ⟨hk.1.2, hk.2⟩)) hg hat); have n1_ := Aside0.mk (blk_grown (g := gb336) (o := .cells #[.int .i64 t330, .int .i64 t331, .int .i64 t332, .int .i64 t333, .int .u64 t334] 29 (0, 0)) (by (with_reducible repeat (first | refine blk_drewN ?_ _ | refine blk_drew ?_ | refine blk_alloc ?_ _)); exact BK336.out) hg (Kd.R_ne HO349.out BK336.out (by decide))); have n2_ := Aside0.mk (Kd.R_after (ok := (fun k_ => some k_ ≠ (.slice (some ad329) t326.length co70 : Value).ownBlock)) (by (with_reducible repeat (first | apply Kd.R_alloc | apply Kd.R_drewN | apply Kd.R_drew)); exact HO343.out) hg hat); have n3_ := Aside0.mk (hb); have n4_ := Aside0.mk (ho); clear HO328; clear BK336; clear HO343; clear HB; clear HO349; have HO328 := n0_; have BK336 := n1_; have HO343 := n2_; have HB := n3_; have HO352 := n4_; clear n0_ n1_ n2_ n3_ n4_; clear ho hb hg hat))
                          have n0_ := Aside0.mk (Kd.R_drew HO328.out)
                          have n1_ := Aside0.mk (Kd.R_drew HO343.out)
                          have n2_ := Aside0.mk (Kd.R_drew HO352.out)
                          have n3_ := Aside0.mk (blk_drew BK336.out)
                          have n4_ := Aside0.mk (below_drew1 HB.out)
                          clear HO328
                          clear HO343
                          clear HO352
                          clear BK336
                          clear HB
                          have HO328 := n0_
                          have HO343 := n1_
                          have HO352 := n2_
                          have BK336 := n3_
                          have HB := n4_
                          clear n0_ n1_ n2_ n3_ n4_
                          have p353 : 0 ≤ ((ji12) : Int) := of_decide_eq_true (by first | (with_reducible assumption) | assumption)
                          have q353 : (ji12) < (t326.length : Int) := of_decide_eq_true (by first | (with_reducible assumption) | assumption)
                          obtain ⟨ad353, e353, hx353_0⟩ := Kd.at_int (Kd.R_reads' HO328.out).2.2 (ji12) p353 q353
                          obtain rfl : ad329 = ad353 := (by injection e353)
                          replace p353 := eq_true p353
                          replace q353 := eq_true q353
                          refine start_ (n := 11) (S := fun w' => w'.cell? (ad329.add ((ji12)).toNat) = some (.int .u64 (rd t326 (ji12)))) (ds := [10]) #[false, false, false, false, false, false, false, false, false, false, false] (by kernel_rfl) rfl rfl (hx353_0) (fun hHeld => ?_); refine with_tabW lockfastlaw11_TileOne.tab17 lockfastlaw11_TileOne.bits17 (fun HT_ HW_ => ?_)
                          generalize w81.drew = w82 at HO328 HO343 HO352 BK336 HB hx353_0 hHeld ⊢
                          refine pure_ (i := 0) (N := some 71) (v := ?_) (a' := ?_) #[true, false, false, false, false, false, false, false, false, false, false] rfl rfl (any_of HT_.out (by kernel_rfl)) (fun _ _ _ h => h) (Or.inl ⟨by rfl, ?_⟩) ?_ ?_
                          rotate_left
                          · intro w'
                            go_simp
                            with_reducible rfl
                          rotate_left
                          · simp only [Act.put, List.setIfInBounds_toArray, List.set_cons_zero, List.set_cons_succ, i64_w, i32_w]
                            rfl
                          refine pure_ (i := 1) (N := some 72) (v := ?_) (a' := ?_) #[true, true, false, false, false, false, false, false, false, false, false] rfl rfl (any_of HT_.out (by kernel_rfl)) (fun _ _ _ h => h) (Or.inl ⟨by rfl, ?_⟩) ?_ ?_
                          rotate_left
                          · intro w'
                            go_simp
                            with_reducible rfl
                          rotate_left
                          · simp only [Act.put, List.setIfInBounds_toArray, List.set_cons_zero, List.set_cons_succ, i64_w, i32_w]
                            rfl
                          refine pure_ (i := 2) (N := some 73) (v := ?_) (a' := ?_) #[true, true, true, false, false, false, false, false, false, false, false] rfl rfl (any_of HT_.out (by kernel_rfl)) (fun _ _ _ h => h) (Or.inl ⟨by rfl, ?_⟩) ?_ ?_
                          rotate_left
                          · intro w'
                            go_simp
                            with_reducible rfl
                          rotate_left
                          · simp only [Act.put, List.setIfInBounds_toArray, List.set_cons_zero, List.set_cons_succ, i64_w, i32_w]
                            rfl
                          refine pure_ (i := 3) (N := some 74) (v := ?_) (a' := ?_) #[true, true, true, true, false, false, false, false, false, false, false] rfl rfl (any_of HT_.out (by kernel_rfl)) (fun _ _ _ h => h) (Or.inl ⟨by rfl, ?_⟩) ?_ ?_
                          rotate_left
                          · intro w'
                            go_simp
                            with_reducible rfl
                          rotate_left
                          · simp only [Act.put, List.setIfInBounds_toArray, List.set_cons_zero, List.set_cons_succ, i64_w, i32_w]
                            rfl
                          refine pure_ (i := 4) (N := some 75) (v := ?_) (a' := ?_) #[true, true, true, true, true, false, false, false, false, false, false] rfl rfl (any_of HT_.out (by kernel_rfl)) (fun _ _ _ h => h) (Or.inl ⟨by rfl, ?_⟩) ?_ ?_
                          rotate_left
                          · intro w'
                            go_simp
                            with_reducible rfl
                          rotate_left
                          · simp only [Act.put, List.setIfInBounds_toArray, List.set_cons_zero, List.set_cons_succ, i64_w, i32_w]
                            rfl
                          refine pure_ (i := 6) (N := some 77) (v := ?_) (a' := ?_) #[true, true, true, true, true, false, true, false, false, false, false] rfl rfl (any_of HT_.out (by kernel_rfl)) (fun _ _ _ h => h) (Or.inl ⟨by rfl, ?_⟩) ?_ ?_
                          rotate_left
                          · intro w'
                            go_simp
                            with_reducible rfl
                          rotate_left
                          · simp only [Act.put, List.setIfInBounds_toArray, List.set_cons_zero, List.set_cons_succ, i64_w, i32_w]
                            rfl
                          refine take_ (i := 5) (N := some 76) (v := ?_) (a' := ?_) #[true, true, true, true, true, true, true, false, false, false, false] rfl rfl (take_ofW HT_.out HW_.out (by kernel_rfl)) (fun _ _ _ h => h) (Or.inl ⟨by rfl, ?_⟩) hHeld ?_ ?_
                          rotate_left
                          · intro w' s0
                            go_simp
                            with_reducible rfl
                          rotate_left
                          · simp only [Act.put, List.setIfInBounds_toArray, List.set_cons_zero, List.set_cons_succ, i64_w, i32_w]
                            rfl
                          refine one_ (i := 7) (N := some 78) #[true, true, true, true, true, true, true, true, false, false, false] rfl rfl (one_of HT_.out (by kernel_rfl)) (by decide) (fun K hK => ?_)
                          refine goes_ Tryd.func27 (by kernel_rfl) rfl #[.int .i64 (Int.tmod (wrap64 (a2)) t337)] (by rfl) rfl rfl (by (try simp only [List.map_toArray, List.map_cons, List.map_nil]); first | done | rfl | (simp only [List.length_drop, List.length_take]; rfl)) ?_
                          with_reducible refine (chunk_Bit.calls (Int.tmod (wrap64 (a2)) t337) t354 _ A25.out).mono ?_
                          rintro e w' ⟨rfl, ⟨nd, rfl⟩⟩
                          refine ⟨_, rfl, ?_⟩
                          have p27 : 0 ≤ ((ji12) : Int) := of_decide_eq_true (by first | (with_reducible assumption) | assumption)
                          have q27 : ((ji12) : Int) < ((y350.length : Int) : Int) := of_decide_eq_true (by first | (with_reducible assumption) | assumption)
                          obtain ⟨go27, co27, eo27, gb27, gl27, cl27, HG27⟩ := Kd.R_form HO352.out (by omega)
                          (first | cases eo27 | (injection eo27 with ea_ en_ ec_; (first | subst ea_ | (injection ea_ with ea_; subst ea_)); subst ec_; clear en_))
                          have GB27 := Aside0.mk gb27
                          have GG27 := Aside0.mk HG27
                          clear gb27 gl27 HG27
                          obtain ⟨hx27_0, hf27_0⟩ := Kd.R_celln 0 HO352.out ((ji12) : Int) p27 q27
                          replace p27 := eq_true p27
                          replace q27 := eq_true q27
                          have HP83 := Kd.R_putn HO352.out ((ji12) : Int) (Go.bits .andNot .u64 (rd t326 (ji12)) t354)
                          rw [← Ny355.out] at HP83
                          have HQ83 := Aside0.mk HP83
                          clear HP83
                          refine hK.out _ _ (hHeld) (fun hHeld => ?_)
                          clear hK K
                          refine norm_ (a' := ?_) ?_ ?_
                          rotate_left
                          · show Act.put _ (some 78) _ = _
                            simp only [Act.put, List.setIfInBounds_toArray, List.set_cons_zero, List.set_cons_succ, i64_w, i32_w]
                            rfl
                          refine pure_ (i := 8) (N := some 79) (v := ?_) (a' := ?_) #[true, true, true, true, true, true, true, true, true, false, false] rfl rfl (any_of HT_.out (by kernel_rfl)) (fun _ _ _ h => h) (Or.inl ⟨by rfl, ?_⟩) ?_ ?_
                          rotate_left
                          · intro w'
                            go_simp
                            with_reducible rfl
                          rotate_left
                          · simp only [Act.put, List.setIfInBounds_toArray, List.set_cons_zero, List.set_cons_succ, i64_w, i32_w]
                            rfl
                          refine pure_ (i := 9) (N := some 80) (v := ?_) (a' := ?_) #[true, true, true, true, true, true, true, true, true, true, false] rfl rfl (any_of HT_.out (by kernel_rfl)) (fun _ _ _ h => h) (Or.inl ⟨by rfl, ?_⟩) ?_ ?_
                          rotate_left
                          · intro w'
                            go_simp
                            with_reducible rfl
                          rotate_left
                          · simp only [Act.put, List.setIfInBounds_toArray, List.set_cons_zero, List.set_cons_succ, i64_w, i32_w]
                            rfl
                          refine last_ (i := 10) (N := none) #[true, true, true, true, true, true, true, true, true, true, true] rfl rfl (one_of HT_.out (by kernel_rfl)) (by decide) (fun K hK => ?_)
                          refine skip_ (w1 := ?_) (by rfl) rfl ?_ ?_
                          rotate_left
                          · go_simp
                            rfl
                          refine hK.out _ _ ?_
                          clear hK K
                          refine done_ (done_of HT_.out (by kernel_rfl)) ?_
                          try go_wp2_with (first | ((with_reducible refine gate_callee (f := 23) rfl ?_); refine goesL_ (some 82) rfl rfl Tryd.func23 (by kernel_rfl) rfl #[.slice (some ⟨go23, 0, none⟩) y346.length co23] rfl (by (try simp only [List.map_toArray, List.map_cons, List.map_nil]); first | done | (rw [show y346.length = y341.length from (Kd.R_reads' HO343.out).1.symm] <;> rfl) | rfl | (simp only [List.length_drop, List.length_take]; rfl)) ?_; (with_reducible refine (tile_Blocks.calls k _ _ y346 t356 _ ?side1 ?side2 A28.out).mono ?_); (case side1 => refine (Kd.R_reads' (e := 27) (base := w.heap.size) (ok := fun k_ => (some k_ ≠ (.slice (some ad329) t326.length co70 : Value).ownBlock ∧ some k_ ≠ (.slice (some ⟨go27, 0, none⟩) y350.length co27 : Value).ownBlock)) (n := y341.length) (c := co23) ?_).2.2; exact (by (with_reducible repeat (first | apply Kd.R_alloc | apply Kd.R_drewN | apply Kd.R_drew)); exact (Kd.R_mono (Kd.R_far (p := ⟨go27, ((ji12) : Int).toNat, none⟩) (Kd.R_mono HO343.out (fun k_ hk => (⟨hk, fun e_ => hk.2 (by rw [e_]; rfl)⟩ : _ ∧ k_ ≠ go27))) (fun _ hk => hk.2) (.int .u64 (Go.bits .andNot .u64 (rd t326 (ji12)) t354))) (fun _ h_ => h_.1)))); (case side2 => rw [show y346.length = y341.length from (Kd.R_reads' HO343.out).1.symm]; exact (Kd.R_reads' HO343.out).2.1); rintro e w84 ⟨v357, rfl, ho0, hb⟩; refine ⟨_, rfl, ?_⟩; have n0_ := Aside0.mk (Kd.R_below (by (with_reducible repeat (first | apply Kd.R_alloc | apply Kd.R_drewN | apply Kd.R_drew)); exact (Kd.R_mono (Kd.R_far (p := ⟨go27, ((ji12) : Int).toNat, none⟩) (Kd.R_mono HO328.out (fun k_ hk => (⟨hk, fun e_ => hk.2 (by rw [e_]; rfl)⟩ : _ ∧ k_ ≠ go27))) (fun _ hk => hk.2) (.int .u64 (Go.bits .andNot .u64 (rd t326 (ji12)) t354))) (fun _ h_ => h_.1))) hb); have n1_ := Aside0.mk (Kd.R_below (by (with_reducible repeat (first | apply Kd.R_alloc | apply Kd.R_drewN | apply Kd.R_drew)); exact (Kd.R_mono (Kd.R_far (p := ⟨go27, ((ji12) : Int).toNat, none⟩) (Kd.R_mono HO343.out (fun k_ hk => (⟨hk, fun e_ => hk.2 (by rw [e_]; rfl)⟩ : _ ∧ k_ ≠ go27))) (fun _ hk => hk.2) (.int .u64 (Go.bits .andNot .u64 (rd t326 (ji12)) t354))) (fun _ h_ => h_.1))) hb); have n2_ := Aside0.mk (Kd.R_below (by (with_reducible repeat (first | apply Kd.R_alloc | apply Kd.R_drewN | apply Kd.R_drew)); exact HQ83.out) hb); have n3_ := Aside0.mk (Kd.R_lower ho0 (below_size (by repeat (first | (with_reducible first | exact HB.out | apply below_alloc | apply pw_below_drewN | apply below_drew1 | refine below_set ?_ GB27.out | refine below_set ?_ GE336.out) | exact HB.out)))); have n4_ := Aside0.mk (blk_below (g := gb336) (o := .cells #[.int .i64 t330, .int .i64 t331, .int .i64 t332, .int .i64 t333, .int .u64 t334] 29 (0, 0)) (by (with_reducible repeat (first | refine blk_drewN ?_ _ | refine blk_drew ?_ | refine blk_alloc ?_ _)); refine blk_far ?_ (by have h_ := Kd.R_ne HO352.out BK336.out (by decide); intro e_; exact h_ (by rw [e_]; rfl)) _; (with_reducible repeat (first | refine blk_drewN ?_ _ | refine blk_drew ?_ | refine blk_alloc ?_ _)); exact BK336.out) hb); have n5_ := Aside0.mk (below_step (by repeat (first | (with_reducible first | exact HB.out | apply below_alloc | apply pw_below_drewN | apply below_drew1 | refine below_set ?_ GB27.out | refine below_set ?_ GE336.out) | exact HB.out)) hb); clear HO328; clear HO343; clear HO352; clear BK336; clear HB; have HO328 := n0_; have HO343 := n1_; have HO352 := n2_; have HO358 := n3_; have BK336 := n4_; have HB := n5_; clear n0_ n1_ n2_ n3_ n4_ n5_; (try clear hb); (try clear hb2); (try clear hk); (try clear hi); (try clear ho0)) | ((with_reducible refine gate_callee (f := 23) rfl ?_); refine goesL_ (some 84) rfl rfl Tryd.func23 (by kernel_rfl) rfl #[.slice (some ⟨go27, 0, none⟩) y355.length co27] rfl (by (try simp only [List.map_toArray, List.map_cons, List.map_nil]); first | done | (rw [show y355.length = y350.length from (Kd.R_reads' HO352.out).1.symm] <;> rfl) | rfl | (simp only [List.length_drop, List.length_take]; rfl)) ?_; (with_reducible refine (tile_Blocks.calls k _ _ y355 t359 _ ?side1 ?side2 A29.out).mono ?_); (case side1 => repeat (first | exact (Kd.R_reads' HO352.out).2.2 | (with_reducible refine Kd.C_alloc ?_ _) | (with_reducible refine Kd.C_drewN ?_ _) | (with_reducible refine Kd.C_drew ?_))); (case side2 => rw [show y355.length = y350.length from (Kd.R_reads' HO352.out).1.symm]; exact (Kd.R_reads' HO352.out).2.1); rintro e w85 ⟨v360, rfl, ho0, hb⟩; refine ⟨_, rfl, ?_⟩; have n0_ := Aside0.mk (Kd.R_below (by (with_reducible repeat (first | apply Kd.R_alloc | apply Kd.R_drewN | apply Kd.R_drew)); exact HO328.out) hb); have n1_ := Aside0.mk (Kd.R_below (by (with_reducible repeat (first | apply Kd.R_alloc | apply Kd.R_drewN | apply Kd.R_drew)); exact HO343.out) hb); have n2_ := Aside0.mk (Kd.R_below (by (with_reducible repeat (first | apply Kd.R_alloc | apply Kd.R_drewN | apply Kd.R_drew)); exact HO352.out) hb); have n3_ := Aside0.mk (Kd.R_elder' (by (with_reducible repeat (first | apply Kd.R_alloc | apply Kd.R_drewN | apply Kd.R_drew)); exact HO358.out) (Kd.R_base ho0) hb); have n4_ := Aside0.mk (Kd.R_lower (Kd.R_new' ho0 (Kd.R_lt (by (with_reducible repeat (first | apply Kd.R_alloc | apply Kd.R_drewN | apply Kd.R_drew)); exact HO358.out))) (below_size (by repeat (first | (with_reducible first | exact HB.out | apply below_alloc | apply pw_below_drewN | apply below_drew1 | refine below_set ?_ GE336.out) | exact HB.out)))); have n5_ := Aside0.mk (blk_below (g := gb336) (o := .cells #[.int .i64 t330, .int .i64 t331, .int .i64 t332, .int .i64 t333, .int .u64 t334] 29 (0, 0)) (by (with_reducible repeat (first | refine blk_drewN ?_ _ | refine blk_drew ?_ | refine blk_alloc ?_ _)); exact BK336.out) hb); have n6_ := Aside0.mk (below_step (by repeat (first | (with_reducible first | exact HB.out | apply below_alloc | apply pw_below_drewN | apply below_drew1 | refine below_set ?_ GE336.out) | exact HB.out)) hb); clear HO328; clear HO343; clear HO352; clear HO358; clear BK336; clear HB; have HO328 := n0_; have HO343 := n1_; have HO352 := n2_; have HO358 := n3_; have HO361 := n4_; have BK336 := n5_; have HB := n6_; clear n0_ n1_ n2_ n3_ n4_ n5_ n6_; (try clear hb); (try clear hb2); (try clear hk); (try clear hi); (try clear ho0); obtain ⟨Ao86, co86, eo86⟩ := Kd.R_slice HO358.out; subst eo86; obtain ⟨Ao87, co87, eo87⟩ := Kd.R_slice HO361.out; subst eo87))
                          go_ret
                          exact ⟨by first | rfl | (simp [errW_none, errW_some] <;> rfl) | (simp only [← hji12]; first | rfl | (simp [errW_none, errW_some] <;> rfl)) | (simp [*, errW_none, errW_some] <;> rfl), by repeat (first | (with_reducible first | exact HB.out | apply below_alloc | apply pw_below_drewN | apply below_drew1 | refine below_set ?_ GE336.out) | exact HB.out)⟩
                      · rw [if_neg c26] at H
                        exact absurd H (by simp)
                    · rw [if_neg c24] at H
                      exact absurd H (by simp)
                  · rw [if_neg c22] at H
                    exact absurd H (by simp)
                · rw [if_neg c20] at H
                  exact absurd H (by simp)
            · rw [if_neg c17] at H
              have c17b0 : (t330 == 1) = false := beq_eq_false_iff_ne.mpr c17
              have c17b1 : (t330 != 1) = true := bne_iff_ne.mpr c17
              obtain rfl := Option.some.inj H
              go_enter Tryd.func6, Tryd.ntmps6
              go_wp2_with (first | ((with_reducible refine gate_callee (f := 15) rfl ?_); refine goesL_ (some 19) rfl rfl Tryd.func15 (by kernel_rfl) rfl #[] rfl (by (try simp only [List.map_toArray, List.map_cons, List.map_nil]); first | done | rfl | (simp only [List.length_drop, List.length_take]; rfl)) ?_; (with_reducible refine (lockfastlaw11_awake.calls k  t325 _ A4.out).mono ?_); rintro e w88 ⟨rfl, hb⟩; refine ⟨_, rfl, ?_⟩; have n0_ := Aside0.mk (below_step (by repeat (first | (with_reducible first | exact HB.out | apply below_alloc | apply pw_below_drewN | apply below_drew1) | exact HB.out)) hb); clear HB; have HB := n0_; clear n0_; (try clear hb); (try clear hb2); (try clear hk); (try clear hi)) | ((with_reducible refine gate_callee (f := 20) rfl ?_); refine goesL_ (some 25) rfl rfl Tryd.func20 (by kernel_rfl) rfl #[.slice A0 l0.length c0, .int .i64 40] rfl (by (try simp only [List.map_toArray, List.map_cons, List.map_nil]); first | done | rfl | (simp only [List.length_drop, List.length_take]; rfl)) ?_; (with_reducible refine (lockfastref11_Made.calls k _ _ l0 40 t326 _ ?side1 ?side2 A7.out).mono ?_); (case side1 => repeat (first | exact (Kd.C_below HR0.out HB.out) | (with_reducible refine Kd.C_alloc ?_ _) | (with_reducible refine Kd.C_drewN ?_ _) | (with_reducible refine Kd.C_drew ?_))); (case side2 => exact HC0.out); rintro e w89 ⟨v327, rfl, ho0, hb⟩; refine ⟨_, rfl, ?_⟩; have n0_ := Aside0.mk (Kd.R_lower ho0 (below_size (by repeat (first | (with_reducible first | exact HB.out | apply below_alloc | apply pw_below_drewN | apply below_drew1) | exact HB.out)))); have n1_ := Aside0.mk (below_step (by repeat (first | (with_reducible first | exact HB.out | apply below_alloc | apply pw_below_drewN | apply below_drew1) | exact HB.out)) hb); clear HB; have HO328 := n0_; have HB := n1_; clear n0_ n1_; (try clear hb); (try clear hb2); (try clear hk); (try clear hi); (try clear ho0); obtain ⟨Ao90, co90, eo90⟩ := Kd.R_slice HO328.out; subst eo90; have p329 : 0 ≤ ((ji12) : Int) := of_decide_eq_true (by first | (with_reducible assumption) | assumption); have q329 : (ji12) < (t326.length : Int) := of_decide_eq_true (by first | (with_reducible assumption) | assumption); obtain ⟨ad329, e329, hx329_0⟩ := Kd.at_int (Kd.R_reads' HO328.out).2.2 (ji12) p329 q329; cases e329; replace p329 := eq_true p329; replace q329 := eq_true q329) | ((with_reducible refine gate_callee (f := 25) rfl ?_); refine goesL_ (some 40) rfl rfl Tryd.func25 (by kernel_rfl) rfl #[.int .u64 (rd t326 (ji12))] rfl (by (try simp only [List.map_toArray, List.map_cons, List.map_nil]); first | done | (simp only [hji12]; rfl) | rfl | (simp only [List.length_drop, List.length_take]; rfl)) ?_; (with_reducible refine (chunk_Decode.calls (rd t326 (ji12)) t330 t331 t332 t333 t334 true _ A15.out).mono ?_); rintro e w91 ⟨rfl, hb⟩; refine ⟨_, rfl, ?_⟩; have n0_ := Aside0.mk (Kd.R_below (by (with_reducible repeat (first | apply Kd.R_alloc | apply Kd.R_drewN | apply Kd.R_drew)); exact HO328.out) hb); have n1_ := Aside0.mk (below_step (by repeat (first | (with_reducible first | exact HB.out | apply below_alloc | apply pw_below_drewN | apply below_drew1) | exact HB.out)) hb); clear HO328; clear HB; have HO328 := n0_; have HB := n1_; clear n0_ n1_; (try clear hb); (try clear hb2); (try clear hk); (try clear hi)) | ((with_reducible refine gate_dst (N := 10) rfl ?_); refine box_event ?hg (N := 10) ?hd (cs := #[.int .i64 0, .int .i64 0, .int .i64 0, .int .i64 0, .int .u64 0]) (t := 29) ?hr ?_; (case hd => rfl); (case hg => rfl); (case hr => first | (go_simp; done) | (go_simp; rfl)); intro gb336 hg w92 hbox hb; have n0_ := Aside0.mk (Kd.R_below (by (with_reducible repeat (first | apply Kd.R_alloc | apply Kd.R_drewN | apply Kd.R_drew)); exact HO328.out) hb); have n1_ := Aside0.mk (below_step (by repeat (first | (with_reducible first | exact HB.out | apply below_alloc | apply pw_below_drewN | apply below_drew1) | exact HB.out)) hb); have n2_ := Aside0.mk (hbox); have n3_ := Aside0.mk ((by rw [hg]; exact (below_size (by repeat (first | (with_reducible first | exact HB.out | apply below_alloc | apply pw_below_drewN | apply below_drew1) | exact HB.out))) : w.heap.size ≤ gb336)); have n4_ := Aside0.mk ((by rw [hg]; exact (below_size (by repeat (first | (with_reducible first | exact HB.out | apply below_alloc | apply pw_below_drewN | apply below_drew1) | exact HB.out))) : w.heap.size ≤ gb336)); clear HO328; clear HB; have HO328 := n0_; have HB := n1_; have BK336 := n2_; have GW336 := n3_; have GE336 := n4_; clear n0_ n1_ n2_ n3_ n4_; clear hb hbox hg; have hcz93_0 : w92.cell? ⟨gb336, 0, none⟩ = some (.int .i64 0) := (blk_cell BK336.out 0).trans rfl; have hcz93_1 : w92.cell? ⟨gb336, 1, none⟩ = some (.int .i64 0) := (blk_cell BK336.out 1).trans rfl; have hcz93_2 : w92.cell? ⟨gb336, 2, none⟩ = some (.int .i64 0) := (blk_cell BK336.out 2).trans rfl; have hcz93_3 : w92.cell? ⟨gb336, 3, none⟩ = some (.int .i64 0) := (blk_cell BK336.out 3).trans rfl; have hcz93_4 : w92.cell? ⟨gb336, 4, none⟩ = some (.int .u64 0) := (blk_cell BK336.out 4).trans rfl; have hfz93_0 := blk_frozen BK336.out 0; have hfz93_1 := blk_frozen BK336.out 1; have hfz93_2 := blk_frozen BK336.out 2; have hfz93_3 := blk_frozen BK336.out 3; have hfz93_4 := blk_frozen BK336.out 4))
              go_ret
              exact ⟨by first | rfl | (simp [errW_none, errW_some] <;> rfl) | (simp only [← hji12]; first | rfl | (simp [errW_none, errW_some] <;> rfl)) | (simp [*, errW_none, errW_some] <;> rfl), by repeat (first | (with_reducible first | exact HB.out | apply below_alloc | apply pw_below_drewN | apply below_drew1 | refine below_set ?_ GE336.out) | exact HB.out)⟩
          · replace c16 := Bool.eq_false_iff.mpr c16
            subst c16
            have H1 : (some false) = some r := by rw [if_neg (show ¬ (false = true) by decide)] at H; exact H
            clear H
            have H := H1
            clear H1
            obtain rfl := Option.some.inj H
            go_enter Tryd.func6, Tryd.ntmps6
            go_wp2_with (first | ((with_reducible refine gate_callee (f := 15) rfl ?_); refine goesL_ (some 19) rfl rfl Tryd.func15 (by kernel_rfl) rfl #[] rfl (by (try simp only [List.map_toArray, List.map_cons, List.map_nil]); first | done | rfl | (simp only [List.length_drop, List.length_take]; rfl)) ?_; (with_reducible refine (lockfastlaw11_awake.calls k  t325 _ A4.out).mono ?_); rintro e w94 ⟨rfl, hb⟩; refine ⟨_, rfl, ?_⟩; have n0_ := Aside0.mk (below_step (by repeat (first | (with_reducible first | exact HB.out | apply below_alloc | apply pw_below_drewN | apply below_drew1) | exact HB.out)) hb); clear HB; have HB := n0_; clear n0_; (try clear hb); (try clear hb2); (try clear hk); (try clear hi)) | ((with_reducible refine gate_callee (f := 20) rfl ?_); refine goesL_ (some 25) rfl rfl Tryd.func20 (by kernel_rfl) rfl #[.slice A0 l0.length c0, .int .i64 40] rfl (by (try simp only [List.map_toArray, List.map_cons, List.map_nil]); first | done | rfl | (simp only [List.length_drop, List.length_take]; rfl)) ?_; (with_reducible refine (lockfastref11_Made.calls k _ _ l0 40 t326 _ ?side1 ?side2 A7.out).mono ?_); (case side1 => repeat (first | exact (Kd.C_below HR0.out HB.out) | (with_reducible refine Kd.C_alloc ?_ _) | (with_reducible refine Kd.C_drewN ?_ _) | (with_reducible refine Kd.C_drew ?_))); (case side2 => exact HC0.out); rintro e w95 ⟨v327, rfl, ho0, hb⟩; refine ⟨_, rfl, ?_⟩; have n0_ := Aside0.mk (Kd.R_lower ho0 (below_size (by repeat (first | (with_reducible first | exact HB.out | apply below_alloc | apply pw_below_drewN | apply below_drew1) | exact HB.out)))); have n1_ := Aside0.mk (below_step (by repeat (first | (with_reducible first | exact HB.out | apply below_alloc | apply pw_below_drewN | apply below_drew1) | exact HB.out)) hb); clear HB; have HO328 := n0_; have HB := n1_; clear n0_ n1_; (try clear hb); (try clear hb2); (try clear hk); (try clear hi); (try clear ho0); obtain ⟨Ao96, co96, eo96⟩ := Kd.R_slice HO328.out; subst eo96; have p329 : 0 ≤ ((ji12) : Int) := of_decide_eq_true (by first | (with_reducible assumption) | assumption); have q329 : (ji12) < (t326.length : Int) := of_decide_eq_true (by first | (with_reducible assumption) | assumption); obtain ⟨ad329, e329, hx329_0⟩ := Kd.at_int (Kd.R_reads' HO328.out).2.2 (ji12) p329 q329; cases e329; replace p329 := eq_true p329; replace q329 := eq_true q329) | ((with_reducible refine gate_callee (f := 25) rfl ?_); refine goesL_ (some 40) rfl rfl Tryd.func25 (by kernel_rfl) rfl #[.int .u64 (rd t326 (ji12))] rfl (by (try simp only [List.map_toArray, List.map_cons, List.map_nil]); first | done | (simp only [hji12]; rfl) | rfl | (simp only [List.length_drop, List.length_take]; rfl)) ?_; (with_reducible refine (chunk_Decode.calls (rd t326 (ji12)) t330 t331 t332 t333 t334 false _ A15.out).mono ?_); rintro e w97 ⟨rfl, hb⟩; refine ⟨_, rfl, ?_⟩; have n0_ := Aside0.mk (Kd.R_below (by (with_reducible repeat (first | apply Kd.R_alloc | apply Kd.R_drewN | apply Kd.R_drew)); exact HO328.out) hb); have n1_ := Aside0.mk (below_step (by repeat (first | (with_reducible first | exact HB.out | apply below_alloc | apply pw_below_drewN | apply below_drew1) | exact HB.out)) hb); clear HO328; clear HB; have HO328 := n0_; have HB := n1_; clear n0_ n1_; (try clear hb); (try clear hb2); (try clear hk); (try clear hi)) | ((with_reducible refine gate_dst (N := 10) rfl ?_); refine box_event ?hg (N := 10) ?hd (cs := #[.int .i64 0, .int .i64 0, .int .i64 0, .int .i64 0, .int .u64 0]) (t := 29) ?hr ?_; (case hd => rfl); (case hg => rfl); (case hr => first | (go_simp; done) | (go_simp; rfl)); intro gb336 hg w98 hbox hb; have n0_ := Aside0.mk (Kd.R_below (by (with_reducible repeat (first | apply Kd.R_alloc | apply Kd.R_drewN | apply Kd.R_drew)); exact HO328.out) hb); have n1_ := Aside0.mk (below_step (by repeat (first | (with_reducible first | exact HB.out | apply below_alloc | apply pw_below_drewN | apply below_drew1) | exact HB.out)) hb); have n2_ := Aside0.mk (hbox); have n3_ := Aside0.mk ((by rw [hg]; exact (below_size (by repeat (first | (with_reducible first | exact HB.out | apply below_alloc | apply pw_below_drewN | apply below_drew1) | exact HB.out))) : w.heap.size ≤ gb336)); have n4_ := Aside0.mk ((by rw [hg]; exact (below_size (by repeat (first | (with_reducible first | exact HB.out | apply below_alloc | apply pw_below_drewN | apply below_drew1) | exact HB.out))) : w.heap.size ≤ gb336)); clear HO328; clear HB; have HO328 := n0_; have HB := n1_; have BK336 := n2_; have GW336 := n3_; have GE336 := n4_; clear n0_ n1_ n2_ n3_ n4_; clear hb hbox hg; have hcz99_0 : w98.cell? ⟨gb336, 0, none⟩ = some (.int .i64 0) := (blk_cell BK336.out 0).trans rfl; have hcz99_1 : w98.cell? ⟨gb336, 1, none⟩ = some (.int .i64 0) := (blk_cell BK336.out 1).trans rfl; have hcz99_2 : w98.cell? ⟨gb336, 2, none⟩ = some (.int .i64 0) := (blk_cell BK336.out 2).trans rfl; have hcz99_3 : w98.cell? ⟨gb336, 3, none⟩ = some (.int .i64 0) := (blk_cell BK336.out 3).trans rfl; have hcz99_4 : w98.cell? ⟨gb336, 4, none⟩ = some (.int .u64 0) := (blk_cell BK336.out 4).trans rfl; have hfz99_0 := blk_frozen BK336.out 0; have hfz99_1 := blk_frozen BK336.out 1; have hfz99_2 := blk_frozen BK336.out 2; have hfz99_3 := blk_frozen BK336.out 3; have hfz99_4 := blk_frozen BK336.out 4))
            go_ret
            exact ⟨by first | rfl | (simp [errW_none, errW_some] <;> rfl) | (simp only [← hji12]; first | rfl | (simp [errW_none, errW_some] <;> rfl)) | (simp [*, errW_none, errW_some] <;> rfl), by repeat (first | (with_reducible first | exact HB.out | apply below_alloc | apply pw_below_drewN | apply below_drew1 | refine below_set ?_ GE336.out) | exact HB.out)⟩
        · rw [if_neg c14] at H
          exact absurd H (by simp)
      · rw [if_neg c13] at H
        exact absurd H (by simp)


end Go.Proofs.YtflbmccjfnkflaaDoor.Q
