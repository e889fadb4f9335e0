-- Written by lfprint.py of this session's own, by way of the kit's print.py; with hand-made contracts.
import Derived.Test.YtflbmccjfnkflaaDoorQx0
import Derived.Test.YtflbmccjfnkflaaDoorQx16
import Derived.Test.YtflbmccjfnkflaaDoorQx19
namespace Go.Proofs.YtflbmccjfnkflaaDoor.Q
open Go.RowKit Go.Proofs.YtflbmccjfnkflaaDoorW.PrintWords Go.Proofs.YtflbmccjfnkflaaDoorW.PrintLast Go.Proofs.YtflbmccjfnkflaaDoorW.PrintMore
attribute [local go_sem] max2_int min2_int max_two min_two max_three min_three max_four min_four   -- for this text's walks alone
set_option linter.unusedVariables false
set_option linter.unusedSimpArgs false

/-! ### lockfastref11_Made: function 20 -/
mutual
def lockfastref11_Made.l0 : Nat → List Int → Int → List Int → Int → Option (List Int)
  | 0, _, _, _, _ => none
  | k + 1, x0, x1, x5, x6 => if x6 < (x0.length : Int) then (lockfastref11_Made.j1 k x0 x1 x5 x6 (decide ((x5.length : Int) < x1))) else (lockfastref11_Made.j1 k x0 x1 x5 x6 false)
def lockfastref11_Made.j1 : Nat → List Int → Int → List Int → Int → Bool → Option (List Int)
  | 0, _, _, _, _, _ => none
  | k + 1, x0, x1, x5, x6, x21 => if x21 = true then (if 0 ≤ x6 then (if x6 < (x0.length : Int) then (if (Int.tmod (wrap64 (rd x0 x6)) 6) = 1 then (lockfastref11_Made.j2 k x0 x1 x5 x6 (wrap64 (rd x0 x6)) (Int.tmod (wrap64 (rd x0 x6)) 6) ((Int.tmod (wrap64 (rd x0 x6)) 6) == 1) 0 0 0 0 0) else (lockfastref11_Made.j2 k x0 x1 x5 x6 (wrap64 (rd x0 x6)) (Int.tmod (wrap64 (rd x0 x6)) 6) ((Int.tmod (wrap64 (rd x0 x6)) 6) == 2) 0 0 0 0 0)) else (none)) else (none)) else (some x5)
def lockfastref11_Made.j3 : Nat → List Int → Int → List Int → Int → Int → Int → Int → Int → Int → Option (List Int)
  | 0, _, _, _, _, _, _, _, _, _ => none
  | k + 1, x0, x1, x5, x6, x207000, x207001, x207002, x207003, x207004 => if (wrap64 ((x5.length : Int) + (mx 1 x207003))) > x1 then (lockfastref11_Made.j4 k x0 x1 x5 x6 (x207000 == 2) x207000 x207001 x207002 x207003 x207004) else (lockfastref11_Made.j4 k x0 x1 x5 x6 false x207000 x207001 x207002 x207003 x207004)
def lockfastref11_Made.j4 : Nat → List Int → Int → List Int → Int → Bool → Int → Int → Int → Int → Int → Option (List Int)
  | 0, _, _, _, _, _, _, _, _, _, _ => none
  | k + 1, x0, x1, x5, x6, x84, x207000, x207001, x207002, x207003, x207004 => if x84 = true then (lockfastref11_Made.j5 k x0 x1 x5 x6 0 0 0 0 0) else (lockfastref11_Made.j5 k x0 x1 x5 x6 x207000 x207001 x207002 x207003 x207004)
def lockfastref11_Made.j5 : Nat → List Int → Int → List Int → Int → Int → Int → Int → Int → Int → Option (List Int)
  | 0, _, _, _, _, _, _, _, _, _ => none
  | k + 1, x0, x1, x5, x6, x207000, x207001, x207002, x207003, x207004 => (lockfastref10_Encode.f x207000 x207001 x207002 x207003 x207004).bind fun bt208 => (if x5.length < 17592186044416 then (lockfastref11_Made.l1 k x0 x1 (x5 ++ [bt208.1]) x6 1 x207000 x207001 x207002 x207003 x207004) else (none))
def lockfastref11_Made.l1 : Nat → List Int → Int → List Int → Int → Int → Int → Int → Int → Int → Int → Option (List Int)
  | 0, _, _, _, _, _, _, _, _, _, _ => none
  | k + 1, x0, x1, x5, x6, x11, x207000, x207001, x207002, x207003, x207004 => if x207000 = 2 then (if x11 < x207003 then (if x5.length < 17592186044416 then (lockfastref11_Made.l1 k x0 x1 (x5 ++ [3]) x6 (wrap64 (x11 + 1)) x207000 x207001 x207002 x207003 x207004) else (none)) else (lockfastref11_Made.l0 k x0 x1 x5 (wrap64 (x6 + 1)))) else (lockfastref11_Made.l0 k x0 x1 x5 (wrap64 (x6 + 1)))
def lockfastref11_Made.j2 : Nat → List Int → Int → List Int → Int → Int → Int → Bool → Int → Int → Int → Int → Int → Option (List Int)
  | 0, _, _, _, _, _, _, _, _, _, _, _, _ => none
  | k + 1, x0, x1, x5, x6, x7, x31, x32, x207000, x207001, x207002, x207003, x207004 => if x32 = true then ((lockfastref09_Many.f k (Int.tmod (wrap64 (Int.tdiv x7 8)) 3)).bind fun t207 => (if 0 ≤ t207 then (if (shl .u64 1 t207) = 0 then (none) else (lockfastref11_Made.j3 k x0 x1 x5 x6 1 (Int.tmod (wrap64 (Int.tdiv x7 8)) 3) 0 0 (Int.tmod (IntKind.u64.wrap (wrap64 (Int.tdiv x7 32))) (shl .u64 1 t207)))) else (none))) else (if x31 = 3 then (lockfastref11_Made.j3 k x0 x1 x5 x6 2 0 0 (wrap64 (1 + (Int.tmod (wrap64 (Int.tdiv x7 8)) 4))) 0) else (if x31 = 4 then (lockfastref11_Made.j3 k x0 x1 x5 x6 1 (Int.tmod (wrap64 (Int.tdiv x7 8)) 3) 0 0 0) else (if x31 = 5 then (lockfastref11_Made.j3 k x0 x1 x5 x6 4 0 (Int.tmod (wrap64 (Int.tdiv x7 8)) 3) (Int.tmod (wrap64 (Int.tdiv x7 32)) 8) 0) else (lockfastref11_Made.j3 k x0 x1 x5 x6 x207000 x207001 x207002 x207003 x207004))))
end
def lockfastref11_Made.f (k : Nat) (l0 : List Int) (a1 : Int) : Option (List Int) := lockfastref11_Made.l0 k l0 a1 ([] : List Int) 0
theorem lockfastref11_Made.mono_l : ∀ k, (∀ y0 y1 y2 y3, LeO (lockfastref11_Made.l0 k y0 y1 y2 y3) (lockfastref11_Made.l0 (k + 1) y0 y1 y2 y3)) ∧ (∀ y0 y1 y2 y3 y4, LeO (lockfastref11_Made.j1 k y0 y1 y2 y3 y4) (lockfastref11_Made.j1 (k + 1) y0 y1 y2 y3 y4)) ∧ (∀ y0 y1 y2 y3 y4 y5 y6 y7 y8, LeO (lockfastref11_Made.j3 k y0 y1 y2 y3 y4 y5 y6 y7 y8) (lockfastref11_Made.j3 (k + 1) y0 y1 y2 y3 y4 y5 y6 y7 y8)) ∧ (∀ y0 y1 y2 y3 y4 y5 y6 y7 y8 y9, LeO (lockfastref11_Made.j4 k y0 y1 y2 y3 y4 y5 y6 y7 y8 y9) (lockfastref11_Made.j4 (k + 1) y0 y1 y2 y3 y4 y5 y6 y7 y8 y9)) ∧ (∀ y0 y1 y2 y3 y4 y5 y6 y7 y8, LeO (lockfastref11_Made.j5 k y0 y1 y2 y3 y4 y5 y6 y7 y8) (lockfastref11_Made.j5 (k + 1) y0 y1 y2 y3 y4 y5 y6 y7 y8)) ∧ (∀ y0 y1 y2 y3 y4 y5 y6 y7 y8 y9, LeO (lockfastref11_Made.l1 k y0 y1 y2 y3 y4 y5 y6 y7 y8 y9) (lockfastref11_Made.l1 (k + 1) y0 y1 y2 y3 y4 y5 y6 y7 y8 y9)) ∧ (∀ y0 y1 y2 y3 y4 y5 y6 y7 y8 y9 y10 y11, LeO (lockfastref11_Made.j2 k y0 y1 y2 y3 y4 y5 y6 y7 y8 y9 y10 y11) (lockfastref11_Made.j2 (k + 1) y0 y1 y2 y3 y4 y5 y6 y7 y8 y9 y10 y11))
  | 0 => ⟨fun _ _ _ _ r h => by simp [lockfastref11_Made.l0] at h, fun _ _ _ _ _ r h => by simp [lockfastref11_Made.j1] at h, fun _ _ _ _ _ _ _ _ _ r h => by simp [lockfastref11_Made.j3] at h, fun _ _ _ _ _ _ _ _ _ _ r h => by simp [lockfastref11_Made.j4] at h, fun _ _ _ _ _ _ _ _ _ r h => by simp [lockfastref11_Made.j5] at h, fun _ _ _ _ _ _ _ _ _ _ r h => by simp [lockfastref11_Made.l1] at h, fun _ _ _ _ _ _ _ _ _ _ _ _ r h => by simp [lockfastref11_Made.j2] at h⟩
  | k + 1 => by
    obtain ⟨ih0, ih1, ih2, ih3, ih4, ih5, ih6⟩ := lockfastref11_Made.mono_l k
    refine ⟨?_, ?_, ?_, ?_, ?_, ?_, ?_⟩
    · intro y0 y1 y2 y3
      unfold lockfastref11_Made.l0
      repeat' first
      | (with_reducible exact ih0 _ _ _ _)
      | (with_reducible exact ih1 _ _ _ _ _)
      | (with_reducible exact ih2 _ _ _ _ _ _ _ _ _)
      | (with_reducible exact ih3 _ _ _ _ _ _ _ _ _ _)
      | (with_reducible exact ih4 _ _ _ _ _ _ _ _ _)
      | (with_reducible exact ih5 _ _ _ _ _ _ _ _ _ _)
      | (with_reducible exact ih6 _ _ _ _ _ _ _ _ _ _ _ _)
      | (with_reducible exact lockfastref09_Many.mono _ _)
      | (with_reducible exact LeO.refl _)
      | (with_reducible exact LeO.none _)
      | (with_reducible refine LeO.ite ?_ ?_)
      | (with_reducible refine LeO.bind ?_ (fun _ => ?_))
      | exact ih0 _ _ _ _
      | exact ih1 _ _ _ _ _
      | exact ih2 _ _ _ _ _ _ _ _ _
      | exact ih3 _ _ _ _ _ _ _ _ _ _
      | exact ih4 _ _ _ _ _ _ _ _ _
      | exact ih5 _ _ _ _ _ _ _ _ _ _
      | exact ih6 _ _ _ _ _ _ _ _ _ _ _ _
      | exact lockfastref09_Many.mono _ _
      | exact LeO.none _
      | refine LeO.ite ?_ ?_
      | refine LeO.bind ?_ (fun _ => ?_)
    · intro y0 y1 y2 y3 y4
      unfold lockfastref11_Made.j1
      repeat' first
      | (with_reducible exact ih0 _ _ _ _)
      | (with_reducible exact ih1 _ _ _ _ _)
      | (with_reducible exact ih2 _ _ _ _ _ _ _ _ _)
      | (with_reducible exact ih3 _ _ _ _ _ _ _ _ _ _)
      | (with_reducible exact ih4 _ _ _ _ _ _ _ _ _)
      | (with_reducible exact ih5 _ _ _ _ _ _ _ _ _ _)
      | (with_reducible exact ih6 _ _ _ _ _ _ _ _ _ _ _ _)
      | (with_reducible exact lockfastref09_Many.mono _ _)
      | (with_reducible exact LeO.refl _)
      | (with_reducible exact LeO.none _)
      | (with_reducible refine LeO.ite ?_ ?_)
      | (with_reducible refine LeO.bind ?_ (fun _ => ?_))
      | exact ih0 _ _ _ _
      | exact ih1 _ _ _ _ _
      | exact ih2 _ _ _ _ _ _ _ _ _
      | exact ih3 _ _ _ _ _ _ _ _ _ _
      | exact ih4 _ _ _ _ _ _ _ _ _
      | exact ih5 _ _ _ _ _ _ _ _ _ _
      | exact ih6 _ _ _ _ _ _ _ _ _ _ _ _
      | exact lockfastref09_Many.mono _ _
      | exact LeO.none _
      | refine LeO.ite ?_ ?_
      | refine LeO.bind ?_ (fun _ => ?_)
    · intro y0 y1 y2 y3 y4 y5 y6 y7 y8
      unfold lockfastref11_Made.j3
      repeat' first
      | (with_reducible exact ih0 _ _ _ _)
      | (with_reducible exact ih1 _ _ _ _ _)
      | (with_reducible exact ih2 _ _ _ _ _ _ _ _ _)
      | (with_reducible exact ih3 _ _ _ _ _ _ _ _ _ _)
      | (with_reducible exact ih4 _ _ _ _ _ _ _ _ _)
      | (with_reducible exact ih5 _ _ _ _ _ _ _ _ _ _)
      | (with_reducible exact ih6 _ _ _ _ _ _ _ _ _ _ _ _)
      | (with_reducible exact lockfastref09_Many.mono _ _)
      | (with_reducible exact LeO.refl _)
      | (with_reducible exact LeO.none _)
      | (with_reducible refine LeO.ite ?_ ?_)
      | (with_reducible refine LeO.bind ?_ (fun _ => ?_))
      | exact ih0 _ _ _ _
      | exact ih1 _ _ _ _ _
      | exact ih2 _ _ _ _ _ _ _ _ _
      | exact ih3 _ _ _ _ _ _ _ _ _ _
      | exact ih4 _ _ _ _ _ _ _ _ _
      | exact ih5 _ _ _ _ _ _ _ _ _ _
      | exact ih6 _ _ _ _ _ _ _ _ _ _ _ _
      | exact lockfastref09_Many.mono _ _
      | exact LeO.none _
      | refine LeO.ite ?_ ?_
      | refine LeO.bind ?_ (fun _ => ?_)
    · intro y0 y1 y2 y3 y4 y5 y6 y7 y8 y9
      unfold lockfastref11_Made.j4
      repeat' first
      | (with_reducible exact ih0 _ _ _ _)
      | (with_reducible exact ih1 _ _ _ _ _)
      | (with_reducible exact ih2 _ _ _ _ _ _ _ _ _)
      | (with_reducible exact ih3 _ _ _ _ _ _ _ _ _ _)
      | (with_reducible exact ih4 _ _ _ _ _ _ _ _ _)
      | (with_reducible exact ih5 _ _ _ _ _ _ _ _ _ _)
      | (with_reducible exact ih6 _ _ _ _ _ _ _ _ _ _ _ _)
      | (with_reducible exact lockfastref09_Many.mono _ _)
      | (with_reducible exact LeO.refl _)
      | (with_reducible exact LeO.none _)
      | (with_reducible refine LeO.ite ?_ ?_)
      | (with_reducible refine LeO.bind ?_ (fun _ => ?_))
      | exact ih0 _ _ _ _
      | exact ih1 _ _ _ _ _
      | exact ih2 _ _ _ _ _ _ _ _ _
      | exact ih3 _ _ _ _ _ _ _ _ _ _
      | exact ih4 _ _ _ _ _ _ _ _ _
      | exact ih5 _ _ _ _ _ _ _ _ _ _
      | exact ih6 _ _ _ _ _ _ _ _ _ _ _ _
      | exact lockfastref09_Many.mono _ _
      | exact LeO.none _
      | refine LeO.ite ?_ ?_
      | refine LeO.bind ?_ (fun _ => ?_)
    · intro y0 y1 y2 y3 y4 y5 y6 y7 y8
      unfold lockfastref11_Made.j5
      repeat' first
      | (with_reducible exact ih0 _ _ _ _)
      | (with_reducible exact ih1 _ _ _ _ _)
      | (with_reducible exact ih2 _ _ _ _ _ _ _ _ _)
      | (with_reducible exact ih3 _ _ _ _ _ _ _ _ _ _)
      | (with_reducible exact ih4 _ _ _ _ _ _ _ _ _)
      | (with_reducible exact ih5 _ _ _ _ _ _ _ _ _ _)
      | (with_reducible exact ih6 _ _ _ _ _ _ _ _ _ _ _ _)
      | (with_reducible exact lockfastref09_Many.mono _ _)
      | (with_reducible exact LeO.refl _)
      | (with_reducible exact LeO.none _)
      | (with_reducible refine LeO.ite ?_ ?_)
      | (with_reducible refine LeO.bind ?_ (fun _ => ?_))
      | exact ih0 _ _ _ _
      | exact ih1 _ _ _ _ _
      | exact ih2 _ _ _ _ _ _ _ _ _
      | exact ih3 _ _ _ _ _ _ _ _ _ _
      | exact ih4 _ _ _ _ _ _ _ _ _
      | exact ih5 _ _ _ _ _ _ _ _ _ _
      | exact ih6 _ _ _ _ _ _ _ _ _ _ _ _
      | exact lockfastref09_Many.mono _ _
      | exact LeO.none _
      | refine LeO.ite ?_ ?_
      | refine LeO.bind ?_ (fun _ => ?_)
    · intro y0 y1 y2 y3 y4 y5 y6 y7 y8 y9
      unfold lockfastref11_Made.l1
      repeat' first
      | (with_reducible exact ih0 _ _ _ _)
      | (with_reducible exact ih1 _ _ _ _ _)
      | (with_reducible exact ih2 _ _ _ _ _ _ _ _ _)
      | (with_reducible exact ih3 _ _ _ _ _ _ _ _ _ _)
      | (with_reducible exact ih4 _ _ _ _ _ _ _ _ _)
      | (with_reducible exact ih5 _ _ _ _ _ _ _ _ _ _)
      | (with_reducible exact ih6 _ _ _ _ _ _ _ _ _ _ _ _)
      | (with_reducible exact lockfastref09_Many.mono _ _)
      | (with_reducible exact LeO.refl _)
      | (with_reducible exact LeO.none _)
      | (with_reducible refine LeO.ite ?_ ?_)
      | (with_reducible refine LeO.bind ?_ (fun _ => ?_))
      | exact ih0 _ _ _ _
      | exact ih1 _ _ _ _ _
      | exact ih2 _ _ _ _ _ _ _ _ _
      | exact ih3 _ _ _ _ _ _ _ _ _ _
      | exact ih4 _ _ _ _ _ _ _ _ _
      | exact ih5 _ _ _ _ _ _ _ _ _ _
      | exact ih6 _ _ _ _ _ _ _ _ _ _ _ _
      | exact lockfastref09_Many.mono _ _
      | exact LeO.none _
      | refine LeO.ite ?_ ?_
      | refine LeO.bind ?_ (fun _ => ?_)
    · intro y0 y1 y2 y3 y4 y5 y6 y7 y8 y9 y10 y11
      unfold lockfastref11_Made.j2
      repeat' first
      | (with_reducible exact ih0 _ _ _ _)
      | (with_reducible exact ih1 _ _ _ _ _)
      | (with_reducible exact ih2 _ _ _ _ _ _ _ _ _)
      | (with_reducible exact ih3 _ _ _ _ _ _ _ _ _ _)
      | (with_reducible exact ih4 _ _ _ _ _ _ _ _ _)
      | (with_reducible exact ih5 _ _ _ _ _ _ _ _ _ _)
      | (with_reducible exact ih6 _ _ _ _ _ _ _ _ _ _ _ _)
      | (with_reducible exact lockfastref09_Many.mono _ _)
      | (with_reducible exact LeO.refl _)
      | (with_reducible exact LeO.none _)
      | (with_reducible refine LeO.ite ?_ ?_)
      | (with_reducible refine LeO.bind ?_ (fun _ => ?_))
      | exact ih0 _ _ _ _
      | exact ih1 _ _ _ _ _
      | exact ih2 _ _ _ _ _ _ _ _ _
      | exact ih3 _ _ _ _ _ _ _ _ _ _
      | exact ih4 _ _ _ _ _ _ _ _ _
      | exact ih5 _ _ _ _ _ _ _ _ _ _
      | exact ih6 _ _ _ _ _ _ _ _ _ _ _ _
      | exact lockfastref09_Many.mono _ _
      | exact LeO.none _
      | refine LeO.ite ?_ ?_
      | refine LeO.bind ?_ (fun _ => ?_)
theorem lockfastref11_Made.mono : ∀ a0 a1 k, LeO (lockfastref11_Made.f k a0 a1) (lockfastref11_Made.f (k + 1) a0 a1) := by
  intro a0 a1 k
  obtain ⟨ih0, ih1, ih2, ih3, ih4, ih5, ih6⟩ := lockfastref11_Made.mono_l k
  unfold lockfastref11_Made.f
  repeat' first
      | (with_reducible exact ih0 _ _ _ _)
      | (with_reducible exact ih1 _ _ _ _ _)
      | (with_reducible exact ih2 _ _ _ _ _ _ _ _ _)
      | (with_reducible exact ih3 _ _ _ _ _ _ _ _ _ _)
      | (with_reducible exact ih4 _ _ _ _ _ _ _ _ _)
      | (with_reducible exact ih5 _ _ _ _ _ _ _ _ _ _)
      | (with_reducible exact ih6 _ _ _ _ _ _ _ _ _ _ _ _)
      | (with_reducible exact lockfastref09_Many.mono _ _)
      | (with_reducible exact LeO.refl _)
      | (with_reducible exact LeO.none _)
      | (with_reducible refine LeO.ite ?_ ?_)
      | (with_reducible refine LeO.bind ?_ (fun _ => ?_))
      | exact ih0 _ _ _ _
      | exact ih1 _ _ _ _ _
      | exact ih2 _ _ _ _ _ _ _ _ _
      | exact ih3 _ _ _ _ _ _ _ _ _ _
      | exact ih4 _ _ _ _ _ _ _ _ _
      | exact ih5 _ _ _ _ _ _ _ _ _ _
      | exact ih6 _ _ _ _ _ _ _ _ _ _ _ _
      | exact lockfastref09_Many.mono _ _
      | exact LeO.none _
      | refine LeO.ite ?_ ?_
      | refine LeO.bind ?_ (fun _ => ?_)
def lockfastref11_Made.T11 : Bool × List (List Nat × List Nat) := (true, [([], []), ([0], [0]), ([], []), ([2], [2]), ([3], [3]), ([4], [4]), ([1, 5], [1, 5]), ([0, 1, 2, 3, 4, 5, 6], []), ([7, 6, 4, 0, 1, 2, 3, 4, 5, 6], [6, 7])])
def lockfastref11_Made.B11 : List Nat := [0, 1, 0, 4, 12, 28, 63, 127, 255]
theorem lockfastref11_Made.tab11 : rtab .any (opsOf Tryd.f20 11) = lockfastref11_Made.T11 := by kernel_rfl
theorem lockfastref11_Made.bits11 : waitsOk lockfastref11_Made.T11.2 lockfastref11_Made.B11 = true := by kernel_rfl
set_option maxHeartbeats 8000000 in
set_option maxRecDepth 100000 in
theorem lockfastref11_Made.calls (k : Nat) (A0 : Option Addr) (c0 : Nat) (l0 : List Int) (a1 : Int) (r : List Int) (w : World) (hr0 : Kd.C (Kd.int .u16) w A0 l0.length l0) (hc0 : l0.length ≤ c0) (h : lockfastref11_Made.f k l0 a1 = some r) :
    Calls Tryd.prog 20 #[.slice A0 l0.length c0, .int .i64 a1] w fun e w' => ∃ v0_ : Value, e = .returned (v0_) ∧ Kd.R (Kd.int .u64) 27 w' w.heap.size (fun _ => True) v0_ r ∧ Below w.heap.size w w' := by
  have hu29 := Tryd.underlying29
  have HR0 := Aside0.mk hr0
  have HC0 := Aside0.mk hc0
  clear hr0 hc0
  have HB := Aside0.mk (Below.refl w.heap.size w)
  have H : (lockfastref11_Made.l0 k l0 a1 ([] : List Int) 0) = some r := h
  clear h
  have H' := Aside0.mk H
  clear H
  go_enter Tryd.func20, Tryd.ntmps20
  go_wp2
  go_loopg [5, 6] k (fun kq v5 v6 w' => ∃ (x5_1 : List Int) (x6_1 : Int), v6 = .int .i64 x6_1 ∧ Aside0 (lockfastref11_Made.l0 kq l0 a1 x5_1 x6_1 = some r) ∧ Aside0 (kq ≤ k) ∧ Aside0 (Kd.R (Kd.int .u64) 27 w' w.heap.size (fun _ => True) v5 x5_1) ∧ Aside0 (Below w.heap.size w w'))
  case atStart => exact ⟨(([] : List Int)), (0), (by first | rfl | (simp; done) | (simp [*]; done)), H', ⟨Nat.le_refl _⟩, ⟨by first | exact Kd.R_nil _ _ _ _ _ | exact Kd.N_nil _ _ _ _ _ | exact Kd.V_nil _ _ _ _ _ | exact Kd.Q_nil _ _ _ _ _ | exact Kd.S_nil _ _ _ _ _⟩, ⟨by repeat (first | (with_reducible first | exact HB.out | apply below_alloc | apply pw_below_drewN | apply below_drew1) | exact HB.out)⟩⟩
  case round =>
    clear H'
    try clear c2
    try clear p2
    obtain ⟨x5_1, x6_1, rfl, HA, HK1, HO_5, HB⟩ := hrel
    cases gk with
    | zero => exact absurd HA.out (by simp [lockfastref11_Made.l0])
    | succ k1 =>
      have H := HA.out
      clear HA
      simp only [lockfastref11_Made.l0] at H
      have HC3 := Aside0.mk H
      clear H
      go_upto_region 3 with (fail)
      go_cut [21] (fun v21 wc => ∃ (kq : Nat) (x21_2 : Bool), v21 = .bool x21_2 ∧ Aside0 (lockfastref11_Made.j1 kq l0 a1 x5_1 x6_1 x21_2 = some r) ∧ Aside0 (kq ≤ k1) ∧ Aside0 (Kd.R (Kd.int .u64) 27 wc w.heap.size (fun _ => True) u5 x5_1) ∧ Aside0 (Below w.heap.size w wc))
      case first =>
        have H := HC3.out
        clear HC3
        by_cases c4 : x6_1 < (l0.length : Int)
        · rw [if_pos c4] at H
          have c4b0 : decide (x6_1 < (l0.length : Int)) = true := decide_eq_true c4
          clear c4
          (first | rw [c4b0] | (simp only [i64_w, i32_w]; rw [c4b0]) | skip)
          have H' := Aside0.mk H
          clear H
          obtain ⟨Ao5, co5, eo5⟩ := Kd.R_slice HO_5.out
          subst eo5
          go_wp2
          go_meet
          case rel => exact ⟨_, (decide ((x5_1.length : Int) < a1)), (by first | rfl | (simp; done) | (simp [*]; done)), H', ⟨by have := HK1.out; first | omega | exact Nat.le_refl _⟩, ⟨by (with_reducible repeat (first | apply Kd.R_alloc | apply Kd.R_drewN | apply Kd.R_drew)); exact HO_5.out⟩, ⟨by repeat (first | (with_reducible first | exact HB.out | apply below_alloc | apply pw_below_drewN | apply below_drew1) | exact HB.out)⟩⟩
        · rw [if_neg c4] at H
          have c4b0 : decide (x6_1 < (l0.length : Int)) = false := decide_eq_false c4
          clear c4
          (first | rw [c4b0] | (simp only [i64_w, i32_w]; rw [c4b0]) | skip)
          have H' := Aside0.mk H
          clear H
          go_wp2
          go_meet
          case rel => exact ⟨_, (false), (by first | rfl | (simp; done) | (simp [*]; done)), H', ⟨by have := HK1.out; first | omega | exact Nat.le_refl _⟩, ⟨by (with_reducible repeat (first | apply Kd.R_alloc | apply Kd.R_drewN | apply Kd.R_drew)); exact HO_5.out⟩, ⟨by repeat (first | (with_reducible first | exact HB.out | apply below_alloc | apply pw_below_drewN | apply below_drew1) | exact HB.out)⟩⟩
      case rest =>
        clear HC3
        try clear c2
        try clear p2
        try clear c4
        try clear c4b0
        try clear p2
        obtain ⟨kq, x21_2, rfl, HA, HJ2, HO_5, HB⟩ := hcut
        cases kq with
        | zero => exact absurd HA.out (by simp [lockfastref11_Made.j1])
        | succ kj2 =>
          have H := HA.out
          clear HA
          simp only [lockfastref11_Made.j1] at H
          by_cases c6 : x21_2 = true
          · subst c6
            have H1 : (if 0 ≤ x6_1 then (if x6_1 < (l0.length : Int) then (if (Int.tmod (wrap64 (rd l0 x6_1)) 6) = 1 then (lockfastref11_Made.j2 kj2 l0 a1 x5_1 x6_1 (wrap64 (rd l0 x6_1)) (Int.tmod (wrap64 (rd l0 x6_1)) 6) ((Int.tmod (wrap64 (rd l0 x6_1)) 6) == 1) 0 0 0 0 0) else (lockfastref11_Made.j2 kj2 l0 a1 x5_1 x6_1 (wrap64 (rd l0 x6_1)) (Int.tmod (wrap64 (rd l0 x6_1)) 6) ((Int.tmod (wrap64 (rd l0 x6_1)) 6) == 2) 0 0 0 0 0)) else (none)) else (none)) = some r := by rw [if_pos rfl] at H; exact H
            clear H
            have H := H1
            clear H1
            by_cases c7 : 0 ≤ x6_1
            · rw [if_pos c7] at H
              have c7b0 : decide (0 ≤ x6_1) = true := decide_eq_true c7
              clear c7
              by_cases c8 : x6_1 < (l0.length : Int)
              · rw [if_pos c8] at H
                have c8b0 : decide (x6_1 < (l0.length : Int)) = true := decide_eq_true c8
                clear c8
                have HC9 := Aside0.mk H
                clear H
                have p205 : 0 ≤ (x6_1 : Int) := of_decide_eq_true (by first | (with_reducible assumption) | assumption)
                have q205 : x6_1 < (l0.length : Int) := of_decide_eq_true (by first | (with_reducible assumption) | assumption)
                obtain ⟨ad205, e205, hx205_0⟩ := Kd.at_int HR0.out x6_1 p205 q205
                cases e205
                replace hx205_0 := (HB.out.cell (World.block_lt_of_cell? w _ hx205_0)).trans hx205_0
                replace p205 := eq_true p205
                replace q205 := eq_true q205
                go_upto_block 2 with (first | ((with_reducible refine gate_dst (N := 8) rfl ?_); (try (refine gate_guard (by rfl) ?_; dsimp only)); refine box_event ?hg (N := 8) ?hd (cs := #[.int .i64 0, .int .i64 0, .int .i64 0, .int .i64 0, .int .u64 0]) (t := 29) ?hr ?_; (case hd => rfl); (case hg => rfl); (case hr => first | (go_simp; done) | (go_simp; rfl)); intro gb206 hg w10 hbox hb; have n0_ := Aside0.mk (Kd.R_below (by (with_reducible repeat (first | apply Kd.R_alloc | apply Kd.R_drewN | apply Kd.R_drew)); exact HO_5.out) hb); have n1_ := Aside0.mk (below_step (by repeat (first | (with_reducible first | exact HB.out | apply below_alloc | apply pw_below_drewN | apply below_drew1) | exact HB.out)) hb); have n2_ := Aside0.mk (hbox); have n3_ := Aside0.mk ((by rw [hg]; exact (below_size (by repeat (first | (with_reducible first | exact HB.out | apply below_alloc | apply pw_below_drewN | apply below_drew1) | exact HB.out))) : w.heap.size ≤ gb206)); have n4_ := Aside0.mk ((by rw [hg]; exact (below_size (by repeat (first | (with_reducible first | exact HB.out | apply below_alloc | apply pw_below_drewN | apply below_drew1) | exact HB.out))) : w.heap.size ≤ gb206)); clear HO_5; clear HB; have HO_5 := n0_; have HB := n1_; have BK206 := n2_; have GW206 := n3_; have GE206 := n4_; clear n0_ n1_ n2_ n3_ n4_; clear hb hbox hg; have hcz11_0 : w10.cell? ⟨gb206, 0, none⟩ = some (.int .i64 0) := (blk_cell BK206.out 0).trans rfl; have hcz11_1 : w10.cell? ⟨gb206, 1, none⟩ = some (.int .i64 0) := (blk_cell BK206.out 1).trans rfl; have hcz11_2 : w10.cell? ⟨gb206, 2, none⟩ = some (.int .i64 0) := (blk_cell BK206.out 2).trans rfl; have hcz11_3 : w10.cell? ⟨gb206, 3, none⟩ = some (.int .i64 0) := (blk_cell BK206.out 3).trans rfl; have hcz11_4 : w10.cell? ⟨gb206, 4, none⟩ = some (.int .u64 0) := (blk_cell BK206.out 4).trans rfl; have hfz11_0 := blk_frozen BK206.out 0; have hfz11_1 := blk_frozen BK206.out 1; have hfz11_2 := blk_frozen BK206.out 2; have hfz11_3 := blk_frozen BK206.out 3; have hfz11_4 := blk_frozen BK206.out 4))
                (try simp only [Act.put, List.setIfInBounds_toArray, List.set_cons_zero, List.set_cons_succ])
                go_cut [] (fun wc => ∃ (kq : Nat) (x207000_8 : Int) (x207001_8 : Int) (x207002_8 : Int) (x207003_8 : Int) (x207004_8 : Int), Aside0 (lockfastref11_Made.j3 kq l0 a1 x5_1 x6_1 x207000_8 x207001_8 x207002_8 x207003_8 x207004_8 = some r) ∧ Aside0 (kq ≤ kj2) ∧ Aside0 (Kd.R (Kd.int .u64) 27 wc w.heap.size (fun _ => True) u5 x5_1) ∧ Aside0 (wc.heap[gb206]? = some (.cells #[.int .i64 x207000_8, .int .i64 x207001_8, .int .i64 x207002_8, .int .i64 x207003_8, .int .u64 x207004_8] 29 (0, 0))) ∧ Aside0 (Below w.heap.size w wc))
                case first =>
                  have H := HC9.out
                  clear HC9
                  have HC12 := Aside0.mk H
                  clear H
                  go_upto_if 32 with (fail)
                  go_cut [32] (fun v32 wc => ∃ (kq : Nat) (x32_11 : Bool), v32 = .bool x32_11 ∧ Aside0 (lockfastref11_Made.j2 kq l0 a1 x5_1 x6_1 (wrap64 (rd l0 x6_1)) (Int.tmod (wrap64 (rd l0 x6_1)) 6) x32_11 0 0 0 0 0 = some r) ∧ Aside0 (kq ≤ kj2) ∧ Aside0 (Kd.R (Kd.int .u64) 27 wc w.heap.size (fun _ => True) u5 x5_1) ∧ Aside0 (wc.heap[gb206]? = some (.cells #[.int .i64 0, .int .i64 0, .int .i64 0, .int .i64 0, .int .u64 0] 29 (0, 0))) ∧ Aside0 (Below w.heap.size w wc))
                  case first =>
                    have H := HC12.out
                    clear HC12
                    by_cases c13 : (Int.tmod (wrap64 (rd l0 x6_1)) 6) = 1
                    · rw [if_pos c13] at H
                      have c13b0 : ((Int.tmod (wrap64 (rd l0 x6_1)) 6) == 1) = true := beq_iff_eq.mpr c13
                      have c13b1 : ((Int.tmod (wrap64 (rd l0 x6_1)) 6) != 1) = false := bne_eq_false_iff_eq.mpr c13
                      clear c13
                      (first | rw [c13b0] | (simp only [i64_w, i32_w]; rw [c13b0]) | skip)
                      have H' := Aside0.mk H
                      clear H
                      go_wp2
                      go_meet
                      case rel => exact ⟨_, (((Int.tmod (wrap64 (rd l0 x6_1)) 6) == 1)), (by first | rfl | (simp; done) | (simp [*]; done)), H', ⟨by have := HK1.out; have := HJ2.out; first | omega | exact Nat.le_refl _⟩, ⟨by (with_reducible repeat (first | apply Kd.R_alloc | apply Kd.R_drewN | apply Kd.R_drew)); exact Kd.R_mono (Kd.R_far (p := ⟨gb206, 4, none⟩) (Kd.R_far (p := ⟨gb206, 3, none⟩) (Kd.R_far (p := ⟨gb206, 2, none⟩) (Kd.R_far (p := ⟨gb206, 1, none⟩) (Kd.R_far (p := ⟨gb206, 0, none⟩) (Kd.R_types HO_5.out BK206.out (by decide)) (fun _ hk => hk.2) (.int .i64 0)) (fun _ hk => hk.2) (.int .i64 0)) (fun _ hk => hk.2) (.int .i64 0)) (fun _ hk => hk.2) (.int .i64 0)) (fun _ hk => hk.2) (.int .u64 0)) (fun _ hk => trivial)⟩, ⟨by (with_reducible repeat (first | refine blk_drewN ?_ _ | refine blk_drew ?_ | refine blk_alloc ?_ _)); refine blk_put (cs := #[.int .i64 0, .int .i64 0, .int .i64 0, .int .i64 0, .int .u64 0]) ?_ 4 _ rfl; (with_reducible repeat (first | refine blk_drewN ?_ _ | refine blk_drew ?_ | refine blk_alloc ?_ _)); refine blk_put (cs := #[.int .i64 0, .int .i64 0, .int .i64 0, .int .i64 0, .int .u64 0]) ?_ 3 _ rfl; (with_reducible repeat (first | refine blk_drewN ?_ _ | refine blk_drew ?_ | refine blk_alloc ?_ _)); refine blk_put (cs := #[.int .i64 0, .int .i64 0, .int .i64 0, .int .i64 0, .int .u64 0]) ?_ 2 _ rfl; (with_reducible repeat (first | refine blk_drewN ?_ _ | refine blk_drew ?_ | refine blk_alloc ?_ _)); refine blk_put (cs := #[.int .i64 0, .int .i64 0, .int .i64 0, .int .i64 0, .int .u64 0]) ?_ 1 _ rfl; (with_reducible repeat (first | refine blk_drewN ?_ _ | refine blk_drew ?_ | refine blk_alloc ?_ _)); refine blk_put (cs := #[.int .i64 0, .int .i64 0, .int .i64 0, .int .i64 0, .int .u64 0]) ?_ 0 _ rfl; (with_reducible repeat (first | refine blk_drewN ?_ _ | refine blk_drew ?_ | refine blk_alloc ?_ _)); exact BK206.out⟩, ⟨by repeat (first | (with_reducible first | exact HB.out | apply below_alloc | apply pw_below_drewN | apply below_drew1 | refine below_set ?_ GE206.out) | exact HB.out)⟩⟩
                    · rw [if_neg c13] at H
                      have c13b0 : ((Int.tmod (wrap64 (rd l0 x6_1)) 6) == 1) = false := beq_eq_false_iff_ne.mpr c13
                      have c13b1 : ((Int.tmod (wrap64 (rd l0 x6_1)) 6) != 1) = true := bne_iff_ne.mpr c13
                      (first | rw [c13b0] | (simp only [i64_w, i32_w]; rw [c13b0]) | skip)
                      have H' := Aside0.mk H
                      clear H
                      go_wp2
                      go_meet
                      case rel => exact ⟨_, (((Int.tmod (wrap64 (rd l0 x6_1)) 6) == 2)), (by first | rfl | (simp; done) | (simp [*]; done)), H', ⟨by have := HK1.out; have := HJ2.out; first | omega | exact Nat.le_refl _⟩, ⟨by (with_reducible repeat (first | apply Kd.R_alloc | apply Kd.R_drewN | apply Kd.R_drew)); exact Kd.R_mono (Kd.R_far (p := ⟨gb206, 4, none⟩) (Kd.R_far (p := ⟨gb206, 3, none⟩) (Kd.R_far (p := ⟨gb206, 2, none⟩) (Kd.R_far (p := ⟨gb206, 1, none⟩) (Kd.R_far (p := ⟨gb206, 0, none⟩) (Kd.R_types HO_5.out BK206.out (by decide)) (fun _ hk => hk.2) (.int .i64 0)) (fun _ hk => hk.2) (.int .i64 0)) (fun _ hk => hk.2) (.int .i64 0)) (fun _ hk => hk.2) (.int .i64 0)) (fun _ hk => hk.2) (.int .u64 0)) (fun _ hk => trivial)⟩, ⟨by (with_reducible repeat (first | refine blk_drewN ?_ _ | refine blk_drew ?_ | refine blk_alloc ?_ _)); refine blk_put (cs := #[.int .i64 0, .int .i64 0, .int .i64 0, .int .i64 0, .int .u64 0]) ?_ 4 _ rfl; (with_reducible repeat (first | refine blk_drewN ?_ _ | refine blk_drew ?_ | refine blk_alloc ?_ _)); refine blk_put (cs := #[.int .i64 0, .int .i64 0, .int .i64 0, .int .i64 0, .int .u64 0]) ?_ 3 _ rfl; (with_reducible repeat (first | refine blk_drewN ?_ _ | refine blk_drew ?_ | refine blk_alloc ?_ _)); refine blk_put (cs := #[.int .i64 0, .int .i64 0, .int .i64 0, .int .i64 0, .int .u64 0]) ?_ 2 _ rfl; (with_reducible repeat (first | refine blk_drewN ?_ _ | refine blk_drew ?_ | refine blk_alloc ?_ _)); refine blk_put (cs := #[.int .i64 0, .int .i64 0, .int .i64 0, .int .i64 0, .int .u64 0]) ?_ 1 _ rfl; (with_reducible repeat (first | refine blk_drewN ?_ _ | refine blk_drew ?_ | refine blk_alloc ?_ _)); refine blk_put (cs := #[.int .i64 0, .int .i64 0, .int .i64 0, .int .i64 0, .int .u64 0]) ?_ 0 _ rfl; (with_reducible repeat (first | refine blk_drewN ?_ _ | refine blk_drew ?_ | refine blk_alloc ?_ _)); exact BK206.out⟩, ⟨by repeat (first | (with_reducible first | exact HB.out | apply below_alloc | apply pw_below_drewN | apply below_drew1 | refine below_set ?_ GE206.out) | exact HB.out)⟩⟩
                  case rest =>
                    clear HC12
                    try clear c1
                    try clear c2
                    try clear p2
                    try clear q2
                    try clear hx2
                    try clear c4
                    try clear c4b0
                    try clear c6
                    try clear p6
                    try clear c7
                    try clear c7b0
                    try clear c8
                    try clear c8b0
                    try clear c13
                    try clear c13b0
                    try clear c13b1
                    try clear hcz11_0
                    try clear hcz11_1
                    try clear hcz11_2
                    try clear hcz11_3
                    try clear hcz11_4
                    try clear hfz11_0
                    try clear hfz11_1
                    try clear hfz11_2
                    try clear hfz11_3
                    try clear hfz11_4
                    try clear hx205_0
                    try clear p2
                    try clear p205
                    try clear q205
                    obtain ⟨kq, x32_11, rfl, HA, HJ11, HO_5, BK206, HB⟩ := hcut
                    cases kq with
                    | zero => exact absurd HA.out (by simp [lockfastref11_Made.j2])
                    | succ kj11 =>
                      have H := HA.out
                      clear HA
                      simp only [lockfastref11_Made.j2] at H
                      by_cases c14 : x32_11 = true
                      · subst c14
                        have H1 : ((lockfastref09_Many.f kj11 (Int.tmod (wrap64 (Int.tdiv (wrap64 (rd l0 x6_1)) 8)) 3)).bind fun t207 => (if 0 ≤ t207 then (if (shl .u64 1 t207) = 0 then (none) else (lockfastref11_Made.j3 kj11 l0 a1 x5_1 x6_1 1 (Int.tmod (wrap64 (Int.tdiv (wrap64 (rd l0 x6_1)) 8)) 3) 0 0 (Int.tmod (IntKind.u64.wrap (wrap64 (Int.tdiv (wrap64 (rd l0 x6_1)) 32))) (shl .u64 1 t207)))) else (none))) = some r := by rw [if_pos rfl] at H; exact H
                        clear H
                        have H := H1
                        clear H1
                        replace H := Option.bind_eq_some_iff.mp H
                        obtain ⟨t207, A150, H⟩ := H
                        replace H : (if 0 ≤ t207 then (if (shl .u64 1 t207) = 0 then (none) else (lockfastref11_Made.j3 kj11 l0 a1 x5_1 x6_1 1 (Int.tmod (wrap64 (Int.tdiv (wrap64 (rd l0 x6_1)) 8)) 3) 0 0 (Int.tmod (IntKind.u64.wrap (wrap64 (Int.tdiv (wrap64 (rd l0 x6_1)) 32))) (shl .u64 1 t207)))) else (none)) = some r := H
                        have A15 := Aside0.mk A150
                        clear A150
                        by_cases c16 : 0 ≤ t207
                        · rw [if_pos c16] at H
                          have c16b0 := eq_true c16
                          have c16b1 : decide (0 ≤ t207) = true := decide_eq_true c16
                          clear c16
                          obtain ⟨ji17, hji17⟩ : ∃ j_ : Int, (shl .u64 1 t207) = j_ := ⟨_, rfl⟩
                          replace H : (if (ji17) = 0 then (none) else (lockfastref11_Made.j3 kj11 l0 a1 x5_1 x6_1 1 (Int.tmod (wrap64 (Int.tdiv (wrap64 (rd l0 x6_1)) 8)) 3) 0 0 (Int.tmod (IntKind.u64.wrap (wrap64 (Int.tdiv (wrap64 (rd l0 x6_1)) 32))) (ji17)))) = some r := by first | (rw [hji17] at H; exact H) | (simp only [hji17] at H ⊢; exact H)
                          (try rw [hji17] at A15)
                          have hji17_ : (IntKind.u64.wrap (1 * 2 ^ min t207.toNat 64)) = ji17 := hji17
                          have hji17z : t207 ≤ 64 → (IntKind.u64.wrap (1 * 2 ^ t207.toNat)) = ji17 := shl_small hji17
                          have hji17u : (IntKind.u64.wrap (2 ^ min t207.toNat 64)) = ji17 := by have h_ := hji17_; rw [Int.one_mul] at h_; exact h_
                          have hji17v : t207 ≤ 64 → (IntKind.u64.wrap (2 ^ t207.toNat)) = ji17 := fun hle_ => by have h_ := hji17z hle_; rw [Int.one_mul] at h_; exact h_
                          by_cases c18 : (ji17) = 0
                          · rw [if_pos c18] at H
                            exact absurd H (by simp)
                          · rw [if_neg c18] at H
                            have c18b0 : ((ji17) == 0) = false := beq_eq_false_iff_ne.mpr c18
                            have c18b1 : ((ji17) != 0) = true := bne_iff_ne.mpr c18
                            have H' := Aside0.mk H
                            clear H
                            have hcz19_0 : wc.cell? ⟨gb206, 0, none⟩ = some (.int .i64 0) := (blk_cell BK206.out 0).trans rfl
                            have hcz19_1 : wc.cell? ⟨gb206, 1, none⟩ = some (.int .i64 0) := (blk_cell BK206.out 1).trans rfl
                            have hcz19_2 : wc.cell? ⟨gb206, 2, none⟩ = some (.int .i64 0) := (blk_cell BK206.out 2).trans rfl
                            have hcz19_3 : wc.cell? ⟨gb206, 3, none⟩ = some (.int .i64 0) := (blk_cell BK206.out 3).trans rfl
                            have hcz19_4 : wc.cell? ⟨gb206, 4, none⟩ = some (.int .u64 0) := (blk_cell BK206.out 4).trans rfl
                            have hfz19_0 := blk_frozen BK206.out 0
                            have hfz19_1 := blk_frozen BK206.out 1
                            have hfz19_2 := blk_frozen BK206.out 2
                            have hfz19_3 := blk_frozen BK206.out 3
                            have hfz19_4 := blk_frozen BK206.out 4
                            try go_wp2
                            have n0_ : Aside0 (Kd.R (Kd.int .u64) 27 (((((wc.setCell ⟨gb206, 0, none⟩ (.int .i64 1)).setCell ⟨gb206, 1, none⟩ (.int .i64 (Int.tmod (wrap64 (Int.tdiv (wrap64 (rd l0 x6_1)) 8)) 3))).setCell ⟨gb206, 2, none⟩ (.int .i64 0)).setCell ⟨gb206, 3, none⟩ (.int .i64 0)).setCell ⟨gb206, 4, none⟩ (.int .u64 (IntKind.u64.wrap (wrap64 (Int.tdiv (wrap64 (rd l0 x6_1)) 32))))) w.heap.size (fun _ => True) u5 x5_1) := ⟨by (with_reducible repeat (first | apply Kd.R_alloc | apply Kd.R_drewN | apply Kd.R_drew)); exact Kd.R_mono (Kd.R_far (p := ⟨gb206, 4, none⟩) (Kd.R_far (p := ⟨gb206, 3, none⟩) (Kd.R_far (p := ⟨gb206, 2, none⟩) (Kd.R_far (p := ⟨gb206, 1, none⟩) (Kd.R_far (p := ⟨gb206, 0, none⟩) (Kd.R_types HO_5.out BK206.out (by decide)) (fun _ hk => hk.2) (.int .i64 1)) (fun _ hk => hk.2) (.int .i64 (Int.tmod (wrap64 (Int.tdiv (wrap64 (rd l0 x6_1)) 8)) 3))) (fun _ hk => hk.2) (.int .i64 0)) (fun _ hk => hk.2) (.int .i64 0)) (fun _ hk => hk.2) (.int .u64 (IntKind.u64.wrap (wrap64 (Int.tdiv (wrap64 (rd l0 x6_1)) 32))))) (fun _ hk => trivial)⟩
                            have n1_ : Aside0 ((((((wc.setCell ⟨gb206, 0, none⟩ (.int .i64 1)).setCell ⟨gb206, 1, none⟩ (.int .i64 (Int.tmod (wrap64 (Int.tdiv (wrap64 (rd l0 x6_1)) 8)) 3))).setCell ⟨gb206, 2, none⟩ (.int .i64 0)).setCell ⟨gb206, 3, none⟩ (.int .i64 0)).setCell ⟨gb206, 4, none⟩ (.int .u64 (IntKind.u64.wrap (wrap64 (Int.tdiv (wrap64 (rd l0 x6_1)) 32))))).heap[gb206]? = some (.cells #[.int .i64 1, .int .i64 (Int.tmod (wrap64 (Int.tdiv (wrap64 (rd l0 x6_1)) 8)) 3), .int .i64 0, .int .i64 0, .int .u64 (IntKind.u64.wrap (wrap64 (Int.tdiv (wrap64 (rd l0 x6_1)) 32)))] 29 (0, 0))) := ⟨by (with_reducible repeat (first | refine blk_drewN ?_ _ | refine blk_drew ?_ | refine blk_alloc ?_ _)); refine blk_put (cs := #[.int .i64 1, .int .i64 (Int.tmod (wrap64 (Int.tdiv (wrap64 (rd l0 x6_1)) 8)) 3), .int .i64 0, .int .i64 0, .int .u64 0]) ?_ 4 _ rfl; (with_reducible repeat (first | refine blk_drewN ?_ _ | refine blk_drew ?_ | refine blk_alloc ?_ _)); refine blk_put (cs := #[.int .i64 1, .int .i64 (Int.tmod (wrap64 (Int.tdiv (wrap64 (rd l0 x6_1)) 8)) 3), .int .i64 0, .int .i64 0, .int .u64 0]) ?_ 3 _ rfl; (with_reducible repeat (first | refine blk_drewN ?_ _ | refine blk_drew ?_ | refine blk_alloc ?_ _)); refine blk_put (cs := #[.int .i64 1, .int .i64 (Int.tmod (wrap64 (Int.tdiv (wrap64 (rd l0 x6_1)) 8)) 3), .int .i64 0, .int .i64 0, .int .u64 0]) ?_ 2 _ rfl; (with_reducible repeat (first | refine blk_drewN ?_ _ | refine blk_drew ?_ | refine blk_alloc ?_ _)); refine blk_put (cs := #[.int .i64 1, .int .i64 0, .int .i64 0, .int .i64 0, .int .u64 0]) ?_ 1 _ rfl; (with_reducible repeat (first | refine blk_drewN ?_ _ | refine blk_drew ?_ | refine blk_alloc ?_ _)); refine blk_put (cs := #[.int .i64 0, .int .i64 0, .int .i64 0, .int .i64 0, .int .u64 0]) ?_ 0 _ rfl; (with_reducible repeat (first | refine blk_drewN ?_ _ | refine blk_drew ?_ | refine blk_alloc ?_ _)); exact BK206.out⟩
                            have n2_ : Aside0 (Below w.heap.size w (((((wc.setCell ⟨gb206, 0, none⟩ (.int .i64 1)).setCell ⟨gb206, 1, none⟩ (.int .i64 (Int.tmod (wrap64 (Int.tdiv (wrap64 (rd l0 x6_1)) 8)) 3))).setCell ⟨gb206, 2, none⟩ (.int .i64 0)).setCell ⟨gb206, 3, none⟩ (.int .i64 0)).setCell ⟨gb206, 4, none⟩ (.int .u64 (IntKind.u64.wrap (wrap64 (Int.tdiv (wrap64 (rd l0 x6_1)) 32)))))) := ⟨by repeat (first | (with_reducible first | exact HB.out | apply below_alloc | apply pw_below_drewN | apply below_drew1 | refine below_set ?_ GE206.out) | exact HB.out)⟩
                            (try clear HO_5)
                            (try clear BK206)
                            (try clear HB)
                            generalize (((((wc.setCell ⟨gb206, 0, none⟩ (.int .i64 1)).setCell ⟨gb206, 1, none⟩ (.int .i64 (Int.tmod (wrap64 (Int.tdiv (wrap64 (rd l0 x6_1)) 8)) 3))).setCell ⟨gb206, 2, none⟩ (.int .i64 0)).setCell ⟨gb206, 3, none⟩ (.int .i64 0)).setCell ⟨gb206, 4, none⟩ (.int .u64 (IntKind.u64.wrap (wrap64 (Int.tdiv (wrap64 (rd l0 x6_1)) 32))))) = w20 at n0_ n1_ n2_ ⊢
                            have HO_5 := n0_
                            have BK206 := n1_
                            have HB := n2_
                            clear n0_ n1_ n2_
                            have n0_ := Aside0.mk (Kd.R_drew HO_5.out)
                            have n1_ := Aside0.mk (blk_drew BK206.out)
                            have n2_ := Aside0.mk (below_drew1 HB.out)
                            clear HO_5
                            clear BK206
                            clear HB
                            have HO_5 := n0_
                            have BK206 := n1_
                            have HB := n2_
                            clear n0_ n1_ n2_
                            refine start_ (n := 9) (S := fun w' => w'.cell? ⟨gb206, 0, none⟩ = some (.int .i64 1) ∧ w'.cell? ⟨gb206, 1, none⟩ = some (.int .i64 (Int.tmod (wrap64 (Int.tdiv (wrap64 (rd l0 x6_1)) 8)) 3)) ∧ w'.cell? ⟨gb206, 2, none⟩ = some (.int .i64 0) ∧ w'.cell? ⟨gb206, 3, none⟩ = some (.int .i64 0) ∧ w'.cell? ⟨gb206, 4, none⟩ = some (.int .u64 (IntKind.u64.wrap (wrap64 (Int.tdiv (wrap64 (rd l0 x6_1)) 32))))) (ds := [8]) #[false, false, false, false, false, false, false, false, false] (by kernel_rfl) rfl rfl ⟨(blk_cell BK206.out 0).trans rfl, (blk_cell BK206.out 1).trans rfl, (blk_cell BK206.out 2).trans rfl, (blk_cell BK206.out 3).trans rfl, (blk_cell BK206.out 4).trans rfl⟩ (fun hHeld => ?_); refine with_tabW lockfastref11_Made.tab11 lockfastref11_Made.bits11 (fun HT_ HW_ => ?_)
                            generalize w20.drew = w21 at HO_5 BK206 HB hHeld ⊢
                            refine pure_ (i := 0) (N := some 42) (v := ?_) (a' := ?_) #[true, false, false, false, false, false, false, false, false] rfl rfl (any_of HT_.out (by kernel_rfl)) (fun _ _ _ h => h) (Or.inl ⟨by rfl, ?_⟩) ?_ ?_
                            rotate_left
                            · intro w'
                              go_simp
                              with_reducible rfl
                            rotate_left
                            · simp only [Act.put, List.setIfInBounds_toArray, List.set_cons_zero, List.set_cons_succ, i64_w, i32_w]
                              rfl
                            refine pure_ (i := 2) (N := some 44) (v := ?_) (a' := ?_) #[true, false, true, false, false, false, false, false, false] rfl rfl (any_of HT_.out (by kernel_rfl)) (fun _ _ _ h => h) (Or.inl ⟨by rfl, ?_⟩) ?_ ?_
                            rotate_left
                            · intro w'
                              go_simp
                              with_reducible rfl
                            rotate_left
                            · simp only [Act.put, List.setIfInBounds_toArray, List.set_cons_zero, List.set_cons_succ, i64_w, i32_w]
                              rfl
                            refine take_ (i := 1) (N := some 43) (v := ?_) (a' := ?_) #[true, true, true, false, false, false, false, false, false] rfl rfl (take_ofW HT_.out HW_.out (by kernel_rfl)) (fun _ _ _ h => h) (Or.inl ⟨by rfl, ?_⟩) hHeld ?_ ?_
                            rotate_left
                            · rintro w' ⟨s0, s1, s2, s3, s4⟩
                              go_simp
                              with_reducible rfl
                            rotate_left
                            · simp only [Act.put, List.setIfInBounds_toArray, List.set_cons_zero, List.set_cons_succ, i64_w, i32_w]
                              rfl
                            refine take_ (i := 3) (N := some 45) (v := ?_) (a' := ?_) #[true, true, true, true, false, false, false, false, false] rfl rfl (take_ofW HT_.out HW_.out (by kernel_rfl)) (fun _ _ _ h => h) (Or.inl ⟨by rfl, ?_⟩) hHeld ?_ ?_
                            rotate_left
                            · rintro w' ⟨s0, s1, s2, s3, s4⟩
                              go_simp
                              with_reducible rfl
                            rotate_left
                            · simp only [Act.put, List.setIfInBounds_toArray, List.set_cons_zero, List.set_cons_succ, i64_w, i32_w]
                              rfl
                            refine one_ (i := 4) (N := some 46) #[true, true, true, true, true, false, false, false, false] rfl rfl (one_of HT_.out (by kernel_rfl)) (by decide) (fun K hK => ?_)
                            refine goes_ Tryd.func26 (by kernel_rfl) rfl #[.int .i64 (Int.tmod (wrap64 (Int.tdiv (wrap64 (rd l0 x6_1)) 8)) 3)] (by rfl) rfl rfl (by (try simp only [List.map_toArray, List.map_cons, List.map_nil]); first | done | rfl | (simp only [List.length_drop, List.length_take]; rfl)) ?_
                            with_reducible refine (lockfastref09_Many.calls kj11 (Int.tmod (wrap64 (Int.tdiv (wrap64 (rd l0 x6_1)) 8)) 3) t207 _ A15.out).mono ?_
                            rintro e w' ⟨rfl, ⟨nd, rfl⟩⟩
                            refine ⟨_, rfl, ?_⟩
                            refine hK.out _ _ ⟨(blk_cell BK206.out 0).trans rfl, (blk_cell BK206.out 1).trans rfl, (blk_cell BK206.out 2).trans rfl, (blk_cell BK206.out 3).trans rfl, (blk_cell BK206.out 4).trans rfl⟩ (fun hHeld => ?_)
                            clear hK K
                            refine norm_ (a' := ?_) ?_ ?_
                            rotate_left
                            · show Act.put _ (some 46) _ = _
                              simp only [Act.put, List.setIfInBounds_toArray, List.set_cons_zero, List.set_cons_succ, i64_w, i32_w]
                              rfl
                            refine pure_ (i := 5) (N := some 47) (v := ?_) (a' := ?_) #[true, true, true, true, true, true, false, false, false] rfl rfl (any_of HT_.out (by kernel_rfl)) (fun _ _ _ h => h) (Or.inl ⟨by rfl, ?_⟩) ?_ ?_
                            rotate_left
                            · intro w'
                              go_simp
                              with_reducible rfl
                            rotate_left
                            · simp only [Act.put, List.setIfInBounds_toArray, List.set_cons_zero, List.set_cons_succ, i64_w, i32_w]
                              rfl
                            refine pure_ (i := 6) (N := some 48) (v := ?_) (a' := ?_) #[true, true, true, true, true, true, true, false, false] rfl rfl (any_of HT_.out (by kernel_rfl)) (fun _ _ _ h => h) (Or.inl ⟨by rfl, ?_⟩) ?_ ?_
                            rotate_left
                            · intro w'
                              go_simp
                              with_reducible rfl
                            rotate_left
                            · simp only [Act.put, List.setIfInBounds_toArray, List.set_cons_zero, List.set_cons_succ, i64_w, i32_w]
                              rfl
                            refine pure_ (i := 7) (N := some 49) (v := ?_) (a' := ?_) #[true, true, true, true, true, true, true, true, false] rfl rfl (any_of HT_.out (by kernel_rfl)) (fun _ _ _ h => h) (Or.inl ⟨by rfl, ?_⟩) ?_ ?_
                            rotate_left
                            · intro w'
                              go_simp
                              with_reducible rfl
                            rotate_left
                            · simp only [Act.put, List.setIfInBounds_toArray, List.set_cons_zero, List.set_cons_succ, i64_w, i32_w]
                              rfl
                            refine last_ (i := 8) (N := none) #[true, true, true, true, true, true, true, true, true] rfl rfl (one_of HT_.out (by kernel_rfl)) (by decide) (fun K hK => ?_)
                            have hs22 : w21.cell? ⟨gb206, 4, none⟩ = some (.int .u64 (IntKind.u64.wrap (wrap64 (Int.tdiv (wrap64 (rd l0 x6_1)) 32)))) := (blk_cell BK206.out 4).trans rfl
                            have hfs22 := blk_frozen BK206.out 4
                            refine skip_ (w1 := ?_) (by rfl) rfl ?_ ?_
                            rotate_left
                            · go_simp
                              rfl
                            refine hK.out _ _ ?_
                            clear hK K
                            refine done_ (done_of HT_.out (by kernel_rfl)) ?_
                            try go_wp2
                            go_meet
                            case rel => exact ⟨_, (1), (Int.tmod (wrap64 (Int.tdiv (wrap64 (rd l0 x6_1)) 8)) 3), (0), (0), (Int.tmod (IntKind.u64.wrap (wrap64 (Int.tdiv (wrap64 (rd l0 x6_1)) 32))) (ji17)), H', ⟨by have := HK1.out; have := HJ2.out; have := HJ11.out; first | omega | exact Nat.le_refl _⟩, ⟨by (with_reducible repeat (first | apply Kd.R_alloc | apply Kd.R_drewN | apply Kd.R_drew)); exact Kd.R_mono (Kd.R_far (p := ⟨gb206, 4, none⟩) (Kd.R_types HO_5.out BK206.out (by decide)) (fun _ hk => hk.2) (.int .u64 (Int.tmod (IntKind.u64.wrap (wrap64 (Int.tdiv (wrap64 (rd l0 x6_1)) 32))) (ji17)))) (fun _ hk => trivial)⟩, ⟨by (with_reducible repeat (first | refine blk_drewN ?_ _ | refine blk_drew ?_ | refine blk_alloc ?_ _)); refine blk_put (cs := #[.int .i64 1, .int .i64 (Int.tmod (wrap64 (Int.tdiv (wrap64 (rd l0 x6_1)) 8)) 3), .int .i64 0, .int .i64 0, .int .u64 (IntKind.u64.wrap (wrap64 (Int.tdiv (wrap64 (rd l0 x6_1)) 32)))]) ?_ 4 _ rfl; (with_reducible repeat (first | refine blk_drewN ?_ _ | refine blk_drew ?_ | refine blk_alloc ?_ _)); exact BK206.out⟩, ⟨by repeat (first | (with_reducible first | exact HB.out | apply below_alloc | apply pw_below_drewN | apply below_drew1 | refine below_set ?_ GE206.out) | exact HB.out)⟩⟩
                        · rw [if_neg c16] at H
                          exact absurd H (by simp)
                      · replace c14 := Bool.eq_false_iff.mpr c14
                        subst c14
                        have H1 : (if (Int.tmod (wrap64 (rd l0 x6_1)) 6) = 3 then (lockfastref11_Made.j3 kj11 l0 a1 x5_1 x6_1 2 0 0 (wrap64 (1 + (Int.tmod (wrap64 (Int.tdiv (wrap64 (rd l0 x6_1)) 8)) 4))) 0) else (if (Int.tmod (wrap64 (rd l0 x6_1)) 6) = 4 then (lockfastref11_Made.j3 kj11 l0 a1 x5_1 x6_1 1 (Int.tmod (wrap64 (Int.tdiv (wrap64 (rd l0 x6_1)) 8)) 3) 0 0 0) else (if (Int.tmod (wrap64 (rd l0 x6_1)) 6) = 5 then (lockfastref11_Made.j3 kj11 l0 a1 x5_1 x6_1 4 0 (Int.tmod (wrap64 (Int.tdiv (wrap64 (rd l0 x6_1)) 8)) 3) (Int.tmod (wrap64 (Int.tdiv (wrap64 (rd l0 x6_1)) 32)) 8) 0) else (lockfastref11_Made.j3 kj11 l0 a1 x5_1 x6_1 0 0 0 0 0)))) = some r := by rw [if_neg (show ¬ (false = true) by decide)] at H; exact H
                        clear H
                        have H := H1
                        clear H1
                        by_cases c23 : (Int.tmod (wrap64 (rd l0 x6_1)) 6) = 3
                        · rw [if_pos c23] at H
                          have c23b0 : ((Int.tmod (wrap64 (rd l0 x6_1)) 6) == 3) = true := beq_iff_eq.mpr c23
                          have c23b1 : ((Int.tmod (wrap64 (rd l0 x6_1)) 6) != 3) = false := bne_eq_false_iff_eq.mpr c23
                          clear c23
                          have H' := Aside0.mk H
                          clear H
                          have hcz24_0 : wc.cell? ⟨gb206, 0, none⟩ = some (.int .i64 0) := (blk_cell BK206.out 0).trans rfl
                          have hcz24_1 : wc.cell? ⟨gb206, 1, none⟩ = some (.int .i64 0) := (blk_cell BK206.out 1).trans rfl
                          have hcz24_2 : wc.cell? ⟨gb206, 2, none⟩ = some (.int .i64 0) := (blk_cell BK206.out 2).trans rfl
                          have hcz24_3 : wc.cell? ⟨gb206, 3, none⟩ = some (.int .i64 0) := (blk_cell BK206.out 3).trans rfl
                          have hcz24_4 : wc.cell? ⟨gb206, 4, none⟩ = some (.int .u64 0) := (blk_cell BK206.out 4).trans rfl
                          have hfz24_0 := blk_frozen BK206.out 0
                          have hfz24_1 := blk_frozen BK206.out 1
                          have hfz24_2 := blk_frozen BK206.out 2
                          have hfz24_3 := blk_frozen BK206.out 3
                          have hfz24_4 := blk_frozen BK206.out 4
                          go_wp2
                          go_meet
                          case rel => exact ⟨_, (2), (0), (0), (wrap64 (1 + (Int.tmod (wrap64 (Int.tdiv (wrap64 (rd l0 x6_1)) 8)) 4))), (0), H', ⟨by have := HK1.out; have := HJ2.out; have := HJ11.out; first | omega | exact Nat.le_refl _⟩, ⟨by (with_reducible repeat (first | apply Kd.R_alloc | apply Kd.R_drewN | apply Kd.R_drew)); exact Kd.R_mono (Kd.R_far (p := ⟨gb206, 4, none⟩) (Kd.R_far (p := ⟨gb206, 3, none⟩) (Kd.R_far (p := ⟨gb206, 2, none⟩) (Kd.R_far (p := ⟨gb206, 1, none⟩) (Kd.R_far (p := ⟨gb206, 0, none⟩) (Kd.R_types HO_5.out BK206.out (by decide)) (fun _ hk => hk.2) (.int .i64 2)) (fun _ hk => hk.2) (.int .i64 0)) (fun _ hk => hk.2) (.int .i64 0)) (fun _ hk => hk.2) (.int .i64 (wrap64 (1 + (Int.tmod (wrap64 (Int.tdiv (wrap64 (rd l0 x6_1)) 8)) 4))))) (fun _ hk => hk.2) (.int .u64 0)) (fun _ hk => trivial)⟩, ⟨by (with_reducible repeat (first | refine blk_drewN ?_ _ | refine blk_drew ?_ | refine blk_alloc ?_ _)); refine blk_put (cs := #[.int .i64 2, .int .i64 0, .int .i64 0, .int .i64 (wrap64 (1 + (Int.tmod (wrap64 (Int.tdiv (wrap64 (rd l0 x6_1)) 8)) 4))), .int .u64 0]) ?_ 4 _ rfl; (with_reducible repeat (first | refine blk_drewN ?_ _ | refine blk_drew ?_ | refine blk_alloc ?_ _)); refine blk_put (cs := #[.int .i64 2, .int .i64 0, .int .i64 0, .int .i64 0, .int .u64 0]) ?_ 3 _ rfl; (with_reducible repeat (first | refine blk_drewN ?_ _ | refine blk_drew ?_ | refine blk_alloc ?_ _)); refine blk_put (cs := #[.int .i64 2, .int .i64 0, .int .i64 0, .int .i64 0, .int .u64 0]) ?_ 2 _ rfl; (with_reducible repeat (first | refine blk_drewN ?_ _ | refine blk_drew ?_ | refine blk_alloc ?_ _)); refine blk_put (cs := #[.int .i64 2, .int .i64 0, .int .i64 0, .int .i64 0, .int .u64 0]) ?_ 1 _ rfl; (with_reducible repeat (first | refine blk_drewN ?_ _ | refine blk_drew ?_ | refine blk_alloc ?_ _)); refine blk_put (cs := #[.int .i64 0, .int .i64 0, .int .i64 0, .int .i64 0, .int .u64 0]) ?_ 0 _ rfl; (with_reducible repeat (first | refine blk_drewN ?_ _ | refine blk_drew ?_ | refine blk_alloc ?_ _)); exact BK206.out⟩, ⟨by repeat (first | (with_reducible first | exact HB.out | apply below_alloc | apply pw_below_drewN | apply below_drew1 | refine below_set ?_ GE206.out) | exact HB.out)⟩⟩
                        · rw [if_neg c23] at H
                          have c23b0 : ((Int.tmod (wrap64 (rd l0 x6_1)) 6) == 3) = false := beq_eq_false_iff_ne.mpr c23
                          have c23b1 : ((Int.tmod (wrap64 (rd l0 x6_1)) 6) != 3) = true := bne_iff_ne.mpr c23
                          by_cases c25 : (Int.tmod (wrap64 (rd l0 x6_1)) 6) = 4
                          · rw [if_pos c25] at H
                            have c25b0 : ((Int.tmod (wrap64 (rd l0 x6_1)) 6) == 4) = true := beq_iff_eq.mpr c25
                            have c25b1 : ((Int.tmod (wrap64 (rd l0 x6_1)) 6) != 4) = false := bne_eq_false_iff_eq.mpr c25
                            clear c25
                            have H' := Aside0.mk H
                            clear H
                            have hcz26_0 : wc.cell? ⟨gb206, 0, none⟩ = some (.int .i64 0) := (blk_cell BK206.out 0).trans rfl
                            have hcz26_1 : wc.cell? ⟨gb206, 1, none⟩ = some (.int .i64 0) := (blk_cell BK206.out 1).trans rfl
                            have hcz26_2 : wc.cell? ⟨gb206, 2, none⟩ = some (.int .i64 0) := (blk_cell BK206.out 2).trans rfl
                            have hcz26_3 : wc.cell? ⟨gb206, 3, none⟩ = some (.int .i64 0) := (blk_cell BK206.out 3).trans rfl
                            have hcz26_4 : wc.cell? ⟨gb206, 4, none⟩ = some (.int .u64 0) := (blk_cell BK206.out 4).trans rfl
                            have hfz26_0 := blk_frozen BK206.out 0
                            have hfz26_1 := blk_frozen BK206.out 1
                            have hfz26_2 := blk_frozen BK206.out 2
                            have hfz26_3 := blk_frozen BK206.out 3
                            have hfz26_4 := blk_frozen BK206.out 4
                            go_wp2
                            go_meet
                            case rel => exact ⟨_, (1), (Int.tmod (wrap64 (Int.tdiv (wrap64 (rd l0 x6_1)) 8)) 3), (0), (0), (0), H', ⟨by have := HK1.out; have := HJ2.out; have := HJ11.out; first | omega | exact Nat.le_refl _⟩, ⟨by (with_reducible repeat (first | apply Kd.R_alloc | apply Kd.R_drewN | apply Kd.R_drew)); exact Kd.R_mono (Kd.R_far (p := ⟨gb206, 4, none⟩) (Kd.R_far (p := ⟨gb206, 3, none⟩) (Kd.R_far (p := ⟨gb206, 2, none⟩) (Kd.R_far (p := ⟨gb206, 1, none⟩) (Kd.R_far (p := ⟨gb206, 0, none⟩) (Kd.R_types HO_5.out BK206.out (by decide)) (fun _ hk => hk.2) (.int .i64 1)) (fun _ hk => hk.2) (.int .i64 (Int.tmod (wrap64 (Int.tdiv (wrap64 (rd l0 x6_1)) 8)) 3))) (fun _ hk => hk.2) (.int .i64 0)) (fun _ hk => hk.2) (.int .i64 0)) (fun _ hk => hk.2) (.int .u64 0)) (fun _ hk => trivial)⟩, ⟨by (with_reducible repeat (first | refine blk_drewN ?_ _ | refine blk_drew ?_ | refine blk_alloc ?_ _)); refine blk_put (cs := #[.int .i64 1, .int .i64 (Int.tmod (wrap64 (Int.tdiv (wrap64 (rd l0 x6_1)) 8)) 3), .int .i64 0, .int .i64 0, .int .u64 0]) ?_ 4 _ rfl; (with_reducible repeat (first | refine blk_drewN ?_ _ | refine blk_drew ?_ | refine blk_alloc ?_ _)); refine blk_put (cs := #[.int .i64 1, .int .i64 (Int.tmod (wrap64 (Int.tdiv (wrap64 (rd l0 x6_1)) 8)) 3), .int .i64 0, .int .i64 0, .int .u64 0]) ?_ 3 _ rfl; (with_reducible repeat (first | refine blk_drewN ?_ _ | refine blk_drew ?_ | refine blk_alloc ?_ _)); refine blk_put (cs := #[.int .i64 1, .int .i64 (Int.tmod (wrap64 (Int.tdiv (wrap64 (rd l0 x6_1)) 8)) 3), .int .i64 0, .int .i64 0, .int .u64 0]) ?_ 2 _ rfl; (with_reducible repeat (first | refine blk_drewN ?_ _ | refine blk_drew ?_ | refine blk_alloc ?_ _)); refine blk_put (cs := #[.int .i64 1, .int .i64 0, .int .i64 0, .int .i64 0, .int .u64 0]) ?_ 1 _ rfl; (with_reducible repeat (first | refine blk_drewN ?_ _ | refine blk_drew ?_ | refine blk_alloc ?_ _)); refine blk_put (cs := #[.int .i64 0, .int .i64 0, .int .i64 0, .int .i64 0, .int .u64 0]) ?_ 0 _ rfl; (with_reducible repeat (first | refine blk_drewN ?_ _ | refine blk_drew ?_ | refine blk_alloc ?_ _)); exact BK206.out⟩, ⟨by repeat (first | (with_reducible first | exact HB.out | apply below_alloc | apply pw_below_drewN | apply below_drew1 | refine below_set ?_ GE206.out) | exact HB.out)⟩⟩
                          · rw [if_neg c25] at H
                            have c25b0 : ((Int.tmod (wrap64 (rd l0 x6_1)) 6) == 4) = false := beq_eq_false_iff_ne.mpr c25
                            have c25b1 : ((Int.tmod (wrap64 (rd l0 x6_1)) 6) != 4) = true := bne_iff_ne.mpr c25
                            by_cases c27 : (Int.tmod (wrap64 (rd l0 x6_1)) 6) = 5
                            · rw [if_pos c27] at H
                              have c27b0 : ((Int.tmod (wrap64 (rd l0 x6_1)) 6) == 5) = true := beq_iff_eq.mpr c27
                              have c27b1 : ((Int.tmod (wrap64 (rd l0 x6_1)) 6) != 5) = false := bne_eq_false_iff_eq.mpr c27
                              clear c27
                              have H' := Aside0.mk H
                              clear H
                              have hcz28_0 : wc.cell? ⟨gb206, 0, none⟩ = some (.int .i64 0) := (blk_cell BK206.out 0).trans rfl
                              have hcz28_1 : wc.cell? ⟨gb206, 1, none⟩ = some (.int .i64 0) := (blk_cell BK206.out 1).trans rfl
                              have hcz28_2 : wc.cell? ⟨gb206, 2, none⟩ = some (.int .i64 0) := (blk_cell BK206.out 2).trans rfl
                              have hcz28_3 : wc.cell? ⟨gb206, 3, none⟩ = some (.int .i64 0) := (blk_cell BK206.out 3).trans rfl
                              have hcz28_4 : wc.cell? ⟨gb206, 4, none⟩ = some (.int .u64 0) := (blk_cell BK206.out 4).trans rfl
                              have hfz28_0 := blk_frozen BK206.out 0
                              have hfz28_1 := blk_frozen BK206.out 1
                              have hfz28_2 := blk_frozen BK206.out 2
                              have hfz28_3 := blk_frozen BK206.out 3
                              have hfz28_4 := blk_frozen BK206.out 4
                              go_wp2
                              go_meet
                              case rel => exact ⟨_, (4), (0), (Int.tmod (wrap64 (Int.tdiv (wrap64 (rd l0 x6_1)) 8)) 3), (Int.tmod (wrap64 (Int.tdiv (wrap64 (rd l0 x6_1)) 32)) 8), (0), H', ⟨by have := HK1.out; have := HJ2.out; have := HJ11.out; first | omega | exact Nat.le_refl _⟩, ⟨by (with_reducible repeat (first | apply Kd.R_alloc | apply Kd.R_drewN | apply Kd.R_drew)); exact Kd.R_mono (Kd.R_far (p := ⟨gb206, 4, none⟩) (Kd.R_far (p := ⟨gb206, 3, none⟩) (Kd.R_far (p := ⟨gb206, 2, none⟩) (Kd.R_far (p := ⟨gb206, 1, none⟩) (Kd.R_far (p := ⟨gb206, 0, none⟩) (Kd.R_types HO_5.out BK206.out (by decide)) (fun _ hk => hk.2) (.int .i64 4)) (fun _ hk => hk.2) (.int .i64 0)) (fun _ hk => hk.2) (.int .i64 (Int.tmod (wrap64 (Int.tdiv (wrap64 (rd l0 x6_1)) 8)) 3))) (fun _ hk => hk.2) (.int .i64 (Int.tmod (wrap64 (Int.tdiv (wrap64 (rd l0 x6_1)) 32)) 8))) (fun _ hk => hk.2) (.int .u64 0)) (fun _ hk => trivial)⟩, ⟨by (with_reducible repeat (first | refine blk_drewN ?_ _ | refine blk_drew ?_ | refine blk_alloc ?_ _)); refine blk_put (cs := #[.int .i64 4, .int .i64 0, .int .i64 (Int.tmod (wrap64 (Int.tdiv (wrap64 (rd l0 x6_1)) 8)) 3), .int .i64 (Int.tmod (wrap64 (Int.tdiv (wrap64 (rd l0 x6_1)) 32)) 8), .int .u64 0]) ?_ 4 _ rfl; (with_reducible repeat (first | refine blk_drewN ?_ _ | refine blk_drew ?_ | refine blk_alloc ?_ _)); refine blk_put (cs := #[.int .i64 4, .int .i64 0, .int .i64 (Int.tmod (wrap64 (Int.tdiv (wrap64 (rd l0 x6_1)) 8)) 3), .int .i64 0, .int .u64 0]) ?_ 3 _ rfl; (with_reducible repeat (first | refine blk_drewN ?_ _ | refine blk_drew ?_ | refine blk_alloc ?_ _)); refine blk_put (cs := #[.int .i64 4, .int .i64 0, .int .i64 0, .int .i64 0, .int .u64 0]) ?_ 2 _ rfl; (with_reducible repeat (first | refine blk_drewN ?_ _ | refine blk_drew ?_ | refine blk_alloc ?_ _)); refine blk_put (cs := #[.int .i64 4, .int .i64 0, .int .i64 0, .int .i64 0, .int .u64 0]) ?_ 1 _ rfl; (with_reducible repeat (first | refine blk_drewN ?_ _ | refine blk_drew ?_ | refine blk_alloc ?_ _)); refine blk_put (cs := #[.int .i64 0, .int .i64 0, .int .i64 0, .int .i64 0, .int .u64 0]) ?_ 0 _ rfl; (with_reducible repeat (first | refine blk_drewN ?_ _ | refine blk_drew ?_ | refine blk_alloc ?_ _)); exact BK206.out⟩, ⟨by repeat (first | (with_reducible first | exact HB.out | apply below_alloc | apply pw_below_drewN | apply below_drew1 | refine below_set ?_ GE206.out) | exact HB.out)⟩⟩
                            · rw [if_neg c27] at H
                              have c27b0 : ((Int.tmod (wrap64 (rd l0 x6_1)) 6) == 5) = false := beq_eq_false_iff_ne.mpr c27
                              have c27b1 : ((Int.tmod (wrap64 (rd l0 x6_1)) 6) != 5) = true := bne_iff_ne.mpr c27
                              have H' := Aside0.mk H
                              clear H
                              go_wp2
                              go_meet
                              case rel => exact ⟨_, (0), (0), (0), (0), (0), H', ⟨by have := HK1.out; have := HJ2.out; have := HJ11.out; first | omega | exact Nat.le_refl _⟩, ⟨by (with_reducible repeat (first | apply Kd.R_alloc | apply Kd.R_drewN | apply Kd.R_drew)); exact HO_5.out⟩, ⟨by (with_reducible repeat (first | refine blk_drewN ?_ _ | refine blk_drew ?_ | refine blk_alloc ?_ _)); exact BK206.out⟩, ⟨by repeat (first | (with_reducible first | exact HB.out | apply below_alloc | apply pw_below_drewN | apply below_drew1 | refine below_set ?_ GE206.out) | exact HB.out)⟩⟩
                case rest =>
                  clear HC9
                  try clear c1
                  try clear c2
                  try clear p2
                  try clear q2
                  try clear hx2
                  try clear c4
                  try clear c4b0
                  try clear c6
                  try clear p6
                  try clear c7
                  try clear c7b0
                  try clear c8
                  try clear c8b0
                  try clear c13
                  try clear c13b0
                  try clear c13b1
                  try clear c14
                  try clear c16
                  try clear c16b0
                  try clear c16b1
                  try clear c18
                  try clear c18b0
                  try clear c18b1
                  try clear c20
                  try clear p20
                  try clear q20
                  try clear hx20
                  try clear c23
                  try clear c23b0
                  try clear c23b1
                  try clear c25
                  try clear c25b0
                  try clear c25b1
                  try clear c26
                  try clear c27
                  try clear c27b0
                  try clear c27b1
                  try clear hcz11_0
                  try clear hcz11_1
                  try clear hcz11_2
                  try clear hcz11_3
                  try clear hcz11_4
                  try clear hcz19_0
                  try clear hcz19_1
                  try clear hcz19_2
                  try clear hcz19_3
                  try clear hcz19_4
                  try clear hcz24_0
                  try clear hcz24_1
                  try clear hcz24_2
                  try clear hcz24_3
                  try clear hcz24_4
                  try clear hcz26_0
                  try clear hcz26_1
                  try clear hcz26_2
                  try clear hcz26_3
                  try clear hcz26_4
                  try clear hcz28_0
                  try clear hcz28_1
                  try clear hcz28_2
                  try clear hcz28_3
                  try clear hcz28_4
                  try clear hfz11_0
                  try clear hfz11_1
                  try clear hfz11_2
                  try clear hfz11_3
                  try clear hfz11_4
                  try clear hfz19_0
                  try clear hfz19_1
                  try clear hfz19_2
                  try clear hfz19_3
                  try clear hfz19_4
                  try clear hfz24_0
                  try clear hfz24_1
                  try clear hfz24_2
                  try clear hfz24_3
                  try clear hfz24_4
                  try clear hfz26_0
                  try clear hfz26_1
                  try clear hfz26_2
                  try clear hfz26_3
                  try clear hfz26_4
                  try clear hfz28_0
                  try clear hfz28_1
                  try clear hfz28_2
                  try clear hfz28_3
                  try clear hfz28_4
                  try clear hx205_0
                  try clear p2
                  try clear p205
                  try clear p6
                  try clear q2
                  try clear q205
                  obtain ⟨kq, x207000_8, x207001_8, x207002_8, x207003_8, x207004_8, HA, HJ8, HO_5, BK206, HB⟩ := hcut
                  cases kq with
                  | zero => exact absurd HA.out (by simp [lockfastref11_Made.j3])
                  | succ kj8 =>
                    have H := HA.out
                    clear HA
                    simp only [lockfastref11_Made.j3] at H
                    have HC29 := Aside0.mk H
                    clear H
                    go_upto_region 18 with (fail)
                    go_cut [84] (fun v84 wc => ∃ (kq : Nat) (x84_28 : Bool), v84 = .bool x84_28 ∧ Aside0 (lockfastref11_Made.j4 kq l0 a1 x5_1 x6_1 x84_28 x207000_8 x207001_8 x207002_8 x207003_8 x207004_8 = some r) ∧ Aside0 (kq ≤ kj8) ∧ Aside0 (Kd.R (Kd.int .u64) 27 wc w.heap.size (fun _ => True) u5 x5_1) ∧ Aside0 (wc.heap[gb206]? = some (.cells #[.int .i64 x207000_8, .int .i64 x207001_8, .int .i64 x207002_8, .int .i64 x207003_8, .int .u64 x207004_8] 29 (0, 0))) ∧ Aside0 (Below w.heap.size w wc))
                    case first =>
                      have H := HC29.out
                      clear HC29
                      obtain ⟨ji30, hji30⟩ : ∃ j_ : Int, (mx 1 x207003_8) = j_ := ⟨_, rfl⟩
                      replace H : (if (wrap64 ((x5_1.length : Int) + (ji30))) > a1 then (lockfastref11_Made.j4 kj8 l0 a1 x5_1 x6_1 (x207000_8 == 2) x207000_8 x207001_8 x207002_8 x207003_8 x207004_8) else (lockfastref11_Made.j4 kj8 l0 a1 x5_1 x6_1 false x207000_8 x207001_8 x207002_8 x207003_8 x207004_8)) = some r := by first | (rw [hji30] at H; exact H) | (simp only [hji30] at H ⊢; exact H)
                      have hji30_ : (if 1 < x207003_8 then x207003_8 else 1) = ji30 := hji30
                      by_cases c31 : (wrap64 ((x5_1.length : Int) + (ji30))) > a1
                      · rw [if_pos c31] at H
                        have c31b0 : decide (a1 < (wrap64 ((x5_1.length : Int) + (ji30)))) = true := decide_eq_true c31
                        clear c31
                        (first | rw [c31b0] | (simp only [i64_w, i32_w]; rw [c31b0]) | skip)
                        have H' := Aside0.mk H
                        clear H
                        obtain ⟨Ao32, co32, eo32⟩ := Kd.R_slice HO_5.out
                        subst eo32
                        have hcz33_0 : wc.cell? ⟨gb206, 0, none⟩ = some (.int .i64 x207000_8) := (blk_cell BK206.out 0).trans rfl
                        have hcz33_1 : wc.cell? ⟨gb206, 1, none⟩ = some (.int .i64 x207001_8) := (blk_cell BK206.out 1).trans rfl
                        have hcz33_2 : wc.cell? ⟨gb206, 2, none⟩ = some (.int .i64 x207002_8) := (blk_cell BK206.out 2).trans rfl
                        have hcz33_3 : wc.cell? ⟨gb206, 3, none⟩ = some (.int .i64 x207003_8) := (blk_cell BK206.out 3).trans rfl
                        have hcz33_4 : wc.cell? ⟨gb206, 4, none⟩ = some (.int .u64 x207004_8) := (blk_cell BK206.out 4).trans rfl
                        have hfz33_0 := blk_frozen BK206.out 0
                        have hfz33_1 := blk_frozen BK206.out 1
                        have hfz33_2 := blk_frozen BK206.out 2
                        have hfz33_3 := blk_frozen BK206.out 3
                        have hfz33_4 := blk_frozen BK206.out 4
                        go_wp2
                        go_meet
                        case rel => exact ⟨_, ((x207000_8 == 2)), (by first | rfl | (simp; done) | (simp [*]; done)), H', ⟨by have := HK1.out; have := HJ2.out; have := HJ8.out; first | omega | exact Nat.le_refl _⟩, ⟨by (with_reducible repeat (first | apply Kd.R_alloc | apply Kd.R_drewN | apply Kd.R_drew)); exact HO_5.out⟩, ⟨by (with_reducible repeat (first | refine blk_drewN ?_ _ | refine blk_drew ?_ | refine blk_alloc ?_ _)); exact BK206.out⟩, ⟨by repeat (first | (with_reducible first | exact HB.out | apply below_alloc | apply pw_below_drewN | apply below_drew1 | refine below_set ?_ GE206.out) | exact HB.out)⟩⟩
                      · rw [if_neg c31] at H
                        have c31b0 : decide (a1 < (wrap64 ((x5_1.length : Int) + (ji30)))) = false := decide_eq_false c31
                        clear c31
                        (first | rw [c31b0] | (simp only [i64_w, i32_w]; rw [c31b0]) | skip)
                        have H' := Aside0.mk H
                        clear H
                        obtain ⟨Ao34, co34, eo34⟩ := Kd.R_slice HO_5.out
                        subst eo34
                        have hcz35_0 : wc.cell? ⟨gb206, 0, none⟩ = some (.int .i64 x207000_8) := (blk_cell BK206.out 0).trans rfl
                        have hcz35_1 : wc.cell? ⟨gb206, 1, none⟩ = some (.int .i64 x207001_8) := (blk_cell BK206.out 1).trans rfl
                        have hcz35_2 : wc.cell? ⟨gb206, 2, none⟩ = some (.int .i64 x207002_8) := (blk_cell BK206.out 2).trans rfl
                        have hcz35_3 : wc.cell? ⟨gb206, 3, none⟩ = some (.int .i64 x207003_8) := (blk_cell BK206.out 3).trans rfl
                        have hcz35_4 : wc.cell? ⟨gb206, 4, none⟩ = some (.int .u64 x207004_8) := (blk_cell BK206.out 4).trans rfl
                        have hfz35_0 := blk_frozen BK206.out 0
                        have hfz35_1 := blk_frozen BK206.out 1
                        have hfz35_2 := blk_frozen BK206.out 2
                        have hfz35_3 := blk_frozen BK206.out 3
                        have hfz35_4 := blk_frozen BK206.out 4
                        go_wp2
                        go_meet
                        case rel => exact ⟨_, (false), (by first | rfl | (simp; done) | (simp [*]; done)), H', ⟨by have := HK1.out; have := HJ2.out; have := HJ8.out; first | omega | exact Nat.le_refl _⟩, ⟨by (with_reducible repeat (first | apply Kd.R_alloc | apply Kd.R_drewN | apply Kd.R_drew)); exact HO_5.out⟩, ⟨by (with_reducible repeat (first | refine blk_drewN ?_ _ | refine blk_drew ?_ | refine blk_alloc ?_ _)); exact BK206.out⟩, ⟨by repeat (first | (with_reducible first | exact HB.out | apply below_alloc | apply pw_below_drewN | apply below_drew1 | refine below_set ?_ GE206.out) | exact HB.out)⟩⟩
                    case rest =>
                      clear HC29
                      try clear c1
                      try clear c2
                      try clear p2
                      try clear q2
                      try clear hx2
                      try clear c3
                      try clear c4
                      try clear c4b0
                      try clear c6
                      try clear p6
                      try clear c7
                      try clear c7b0
                      try clear c8
                      try clear c8b0
                      try clear c13
                      try clear c13b0
                      try clear c13b1
                      try clear c14
                      try clear c16
                      try clear c16b0
                      try clear c16b1
                      try clear c18
                      try clear c18b0
                      try clear c18b1
                      try clear c20
                      try clear p20
                      try clear q20
                      try clear hx20
                      try clear c23
                      try clear c23b0
                      try clear c23b1
                      try clear c25
                      try clear c25b0
                      try clear c25b1
                      try clear c26
                      try clear c27
                      try clear c27b0
                      try clear c27b1
                      try clear c31
                      try clear c31b0
                      try clear hcz11_0
                      try clear hcz11_1
                      try clear hcz11_2
                      try clear hcz11_3
                      try clear hcz11_4
                      try clear hcz19_0
                      try clear hcz19_1
                      try clear hcz19_2
                      try clear hcz19_3
                      try clear hcz19_4
                      try clear hcz24_0
                      try clear hcz24_1
                      try clear hcz24_2
                      try clear hcz24_3
                      try clear hcz24_4
                      try clear hcz26_0
                      try clear hcz26_1
                      try clear hcz26_2
                      try clear hcz26_3
                      try clear hcz26_4
                      try clear hcz28_0
                      try clear hcz28_1
                      try clear hcz28_2
                      try clear hcz28_3
                      try clear hcz28_4
                      try clear hcz33_0
                      try clear hcz33_1
                      try clear hcz33_2
                      try clear hcz33_3
                      try clear hcz33_4
                      try clear hcz35_0
                      try clear hcz35_1
                      try clear hcz35_2
                      try clear hcz35_3
                      try clear hcz35_4
                      try clear hfz11_0
                      try clear hfz11_1
                      try clear hfz11_2
                      try clear hfz11_3
                      try clear hfz11_4
                      try clear hfz19_0
                      try clear hfz19_1
                      try clear hfz19_2
                      try clear hfz19_3
                      try clear hfz19_4
                      try clear hfz24_0
                      try clear hfz24_1
                      try clear hfz24_2
                      try clear hfz24_3
                      try clear hfz24_4
                      try clear hfz26_0
                      try clear hfz26_1
                      try clear hfz26_2
                      try clear hfz26_3
                      try clear hfz26_4
                      try clear hfz28_0
                      try clear hfz28_1
                      try clear hfz28_2
                      try clear hfz28_3
                      try clear hfz28_4
                      try clear hfz33_0
                      try clear hfz33_1
                      try clear hfz33_2
                      try clear hfz33_3
                      try clear hfz33_4
                      try clear hfz35_0
                      try clear hfz35_1
                      try clear hfz35_2
                      try clear hfz35_3
                      try clear hfz35_4
                      try clear hx205_0
                      try clear p2
                      try clear p20
                      try clear p205
                      try clear p6
                      try clear q2
                      try clear q20
                      try clear q205
                      obtain ⟨kq, x84_28, rfl, HA, HJ28, HO_5, BK206, HB⟩ := hcut
                      cases kq with
                      | zero => exact absurd HA.out (by simp [lockfastref11_Made.j4])
                      | succ kj28 =>
                        have H := HA.out
                        clear HA
                        simp only [lockfastref11_Made.j4] at H
                        have HC36 := Aside0.mk H
                        clear H
                        go_upto_if 84 with (fail)
                        go_cut [] (fun wc => ∃ (kq : Nat) (x207000_35 : Int) (x207001_35 : Int) (x207002_35 : Int) (x207003_35 : Int) (x207004_35 : Int), Aside0 (lockfastref11_Made.j5 kq l0 a1 x5_1 x6_1 x207000_35 x207001_35 x207002_35 x207003_35 x207004_35 = some r) ∧ Aside0 (kq ≤ kj28) ∧ Aside0 (Kd.R (Kd.int .u64) 27 wc w.heap.size (fun _ => True) u5 x5_1) ∧ Aside0 (wc.heap[gb206]? = some (.cells #[.int .i64 x207000_35, .int .i64 x207001_35, .int .i64 x207002_35, .int .i64 x207003_35, .int .u64 x207004_35] 29 (0, 0))) ∧ Aside0 (Below w.heap.size w wc))
                        case first =>
                          have H := HC36.out
                          clear HC36
                          by_cases c37 : x84_28 = true
                          · subst c37
                            have H1 : (lockfastref11_Made.j5 kj28 l0 a1 x5_1 x6_1 0 0 0 0 0) = some r := by rw [if_pos rfl] at H; exact H
                            clear H
                            have H := H1
                            clear H1
                            have H' := Aside0.mk H
                            clear H
                            have hcz38_0 : wc.cell? ⟨gb206, 0, none⟩ = some (.int .i64 x207000_8) := (blk_cell BK206.out 0).trans rfl
                            have hcz38_1 : wc.cell? ⟨gb206, 1, none⟩ = some (.int .i64 x207001_8) := (blk_cell BK206.out 1).trans rfl
                            have hcz38_2 : wc.cell? ⟨gb206, 2, none⟩ = some (.int .i64 x207002_8) := (blk_cell BK206.out 2).trans rfl
                            have hcz38_3 : wc.cell? ⟨gb206, 3, none⟩ = some (.int .i64 x207003_8) := (blk_cell BK206.out 3).trans rfl
                            have hcz38_4 : wc.cell? ⟨gb206, 4, none⟩ = some (.int .u64 x207004_8) := (blk_cell BK206.out 4).trans rfl
                            have hfz38_0 := blk_frozen BK206.out 0
                            have hfz38_1 := blk_frozen BK206.out 1
                            have hfz38_2 := blk_frozen BK206.out 2
                            have hfz38_3 := blk_frozen BK206.out 3
                            have hfz38_4 := blk_frozen BK206.out 4
                            go_wp2
                            go_meet
                            case rel => exact ⟨_, (0), (0), (0), (0), (0), H', ⟨by have := HK1.out; have := HJ2.out; have := HJ8.out; have := HJ28.out; first | omega | exact Nat.le_refl _⟩, ⟨by (with_reducible repeat (first | apply Kd.R_alloc | apply Kd.R_drewN | apply Kd.R_drew)); exact Kd.R_mono (Kd.R_far (p := ⟨gb206, 4, none⟩) (Kd.R_far (p := ⟨gb206, 3, none⟩) (Kd.R_far (p := ⟨gb206, 2, none⟩) (Kd.R_far (p := ⟨gb206, 1, none⟩) (Kd.R_far (p := ⟨gb206, 0, none⟩) (Kd.R_types HO_5.out BK206.out (by decide)) (fun _ hk => hk.2) (.int .i64 0)) (fun _ hk => hk.2) (.int .i64 0)) (fun _ hk => hk.2) (.int .i64 0)) (fun _ hk => hk.2) (.int .i64 0)) (fun _ hk => hk.2) (.int .u64 0)) (fun _ hk => trivial)⟩, ⟨by (with_reducible repeat (first | refine blk_drewN ?_ _ | refine blk_drew ?_ | refine blk_alloc ?_ _)); refine blk_put (cs := #[.int .i64 0, .int .i64 0, .int .i64 0, .int .i64 0, .int .u64 x207004_8]) ?_ 4 _ rfl; (with_reducible repeat (first | refine blk_drewN ?_ _ | refine blk_drew ?_ | refine blk_alloc ?_ _)); refine blk_put (cs := #[.int .i64 0, .int .i64 0, .int .i64 0, .int .i64 x207003_8, .int .u64 x207004_8]) ?_ 3 _ rfl; (with_reducible repeat (first | refine blk_drewN ?_ _ | refine blk_drew ?_ | refine blk_alloc ?_ _)); refine blk_put (cs := #[.int .i64 0, .int .i64 0, .int .i64 x207002_8, .int .i64 x207003_8, .int .u64 x207004_8]) ?_ 2 _ rfl; (with_reducible repeat (first | refine blk_drewN ?_ _ | refine blk_drew ?_ | refine blk_alloc ?_ _)); refine blk_put (cs := #[.int .i64 0, .int .i64 x207001_8, .int .i64 x207002_8, .int .i64 x207003_8, .int .u64 x207004_8]) ?_ 1 _ rfl; (with_reducible repeat (first | refine blk_drewN ?_ _ | refine blk_drew ?_ | refine blk_alloc ?_ _)); refine blk_put (cs := #[.int .i64 x207000_8, .int .i64 x207001_8, .int .i64 x207002_8, .int .i64 x207003_8, .int .u64 x207004_8]) ?_ 0 _ rfl; (with_reducible repeat (first | refine blk_drewN ?_ _ | refine blk_drew ?_ | refine blk_alloc ?_ _)); exact BK206.out⟩, ⟨by repeat (first | (with_reducible first | exact HB.out | apply below_alloc | apply pw_below_drewN | apply below_drew1 | refine below_set ?_ GE206.out) | exact HB.out)⟩⟩
                          · replace c37 := Bool.eq_false_iff.mpr c37
                            subst c37
                            have H1 : (lockfastref11_Made.j5 kj28 l0 a1 x5_1 x6_1 x207000_8 x207001_8 x207002_8 x207003_8 x207004_8) = some r := by rw [if_neg (show ¬ (false = true) by decide)] at H; exact H
                            clear H
                            have H := H1
                            clear H1
                            have H' := Aside0.mk H
                            clear H
                            go_wp2
                            go_meet
                            case rel => exact ⟨_, (x207000_8), (x207001_8), (x207002_8), (x207003_8), (x207004_8), H', ⟨by have := HK1.out; have := HJ2.out; have := HJ8.out; have := HJ28.out; first | omega | exact Nat.le_refl _⟩, ⟨by (with_reducible repeat (first | apply Kd.R_alloc | apply Kd.R_drewN | apply Kd.R_drew)); exact HO_5.out⟩, ⟨by (with_reducible repeat (first | refine blk_drewN ?_ _ | refine blk_drew ?_ | refine blk_alloc ?_ _)); exact BK206.out⟩, ⟨by repeat (first | (with_reducible first | exact HB.out | apply below_alloc | apply pw_below_drewN | apply below_drew1 | refine below_set ?_ GE206.out) | exact HB.out)⟩⟩
                        case rest =>
                          clear HC36
                          try clear c1
                          try clear c2
                          try clear p2
                          try clear q2
                          try clear hx2
                          try clear c3
                          try clear c4
                          try clear c4b0
                          try clear c6
                          try clear p6
                          try clear c7
                          try clear c7b0
                          try clear c8
                          try clear c8b0
                          try clear c13
                          try clear c13b0
                          try clear c13b1
                          try clear c14
                          try clear c16
                          try clear c16b0
                          try clear c16b1
                          try clear c18
                          try clear c18b0
                          try clear c18b1
                          try clear c20
                          try clear p20
                          try clear q20
                          try clear hx20
                          try clear c23
                          try clear c23b0
                          try clear c23b1
                          try clear c25
                          try clear c25b0
                          try clear c25b1
                          try clear c26
                          try clear c27
                          try clear c27b0
                          try clear c27b1
                          try clear c31
                          try clear c31b0
                          try clear c37
                          try clear hcz11_0
                          try clear hcz11_1
                          try clear hcz11_2
                          try clear hcz11_3
                          try clear hcz11_4
                          try clear hcz19_0
                          try clear hcz19_1
                          try clear hcz19_2
                          try clear hcz19_3
                          try clear hcz19_4
                          try clear hcz24_0
                          try clear hcz24_1
                          try clear hcz24_2
                          try clear hcz24_3
                          try clear hcz24_4
                          try clear hcz26_0
                          try clear hcz26_1
                          try clear hcz26_2
                          try clear hcz26_3
                          try clear hcz26_4
                          try clear hcz28_0
                          try clear hcz28_1
                          try clear hcz28_2
                          try clear hcz28_3
                          try clear hcz28_4
                          try clear hcz33_0
                          try clear hcz33_1
                          try clear hcz33_2
                          try clear hcz33_3
                          try clear hcz33_4
                          try clear hcz35_0
                          try clear hcz35_1
                          try clear hcz35_2
                          try clear hcz35_3
                          try clear hcz35_4
                          try clear hcz38_0
                          try clear hcz38_1
                          try clear hcz38_2
                          try clear hcz38_3
                          try clear hcz38_4
                          try clear hfz11_0
                          try clear hfz11_1
                          try clear hfz11_2
                          try clear hfz11_3
                          try clear hfz11_4
                          try clear hfz19_0
                          try clear hfz19_1
                          try clear hfz19_2
                          try clear hfz19_3
                          try clear hfz19_4
                          try clear hfz24_0
                          try clear hfz24_1
                          try clear hfz24_2
                          try clear hfz24_3
                          try clear hfz24_4
                          try clear hfz26_0
                          try clear hfz26_1
                          try clear hfz26_2
                          try clear hfz26_3
                          try clear hfz26_4
                          try clear hfz28_0
                          try clear hfz28_1
                          try clear hfz28_2
                          try clear hfz28_3
                          try clear hfz28_4
                          try clear hfz33_0
                          try clear hfz33_1
                          try clear hfz33_2
                          try clear hfz33_3
                          try clear hfz33_4
                          try clear hfz35_0
                          try clear hfz35_1
                          try clear hfz35_2
                          try clear hfz35_3
                          try clear hfz35_4
                          try clear hfz38_0
                          try clear hfz38_1
                          try clear hfz38_2
                          try clear hfz38_3
                          try clear hfz38_4
                          try clear hx205_0
                          try clear p2
                          try clear p20
                          try clear p205
                          try clear p6
                          try clear q2
                          try clear q20
                          try clear q205
                          obtain ⟨kq, x207000_35, x207001_35, x207002_35, x207003_35, x207004_35, HA, HJ35, HO_5, BK206, HB⟩ := hcut
                          cases kq with
                          | zero => exact absurd HA.out (by simp [lockfastref11_Made.j5])
                          | succ kj35 =>
                            have H := HA.out
                            clear HA
                            simp only [lockfastref11_Made.j5] at H
                            replace H := Option.bind_eq_some_iff.mp H
                            obtain ⟨⟨t208, t209⟩, A390, H⟩ := H
                            replace H : (if x5_1.length < 17592186044416 then (lockfastref11_Made.l1 kj35 l0 a1 (x5_1 ++ [t208]) x6_1 1 x207000_35 x207001_35 x207002_35 x207003_35 x207004_35) else (none)) = some r := H
                            have A39 := Aside0.mk A390
                            clear A390
                            by_cases c40 : x5_1.length < 17592186044416
                            · rw [if_pos c40] at H
                              have LMc40 := Aside0.mk c40
                              clear c40
                              obtain ⟨y210, hy210⟩ : ∃ y_ : List Int, y_ = (x5_1 ++ [t208]) := ⟨_, rfl⟩
                              replace H : (lockfastref11_Made.l1 kj35 l0 a1 y210 x6_1 1 x207000_35 x207001_35 x207002_35 x207003_35 x207004_35) = some r := by first | (rw [hy210]; with_reducible exact H) | (have H2_ := (Option.bind_some _ _).symm.trans H; rw [hy210]; with_reducible exact H2_) | (have H2_ := (Option.bind_some _ _).symm.trans H; with_reducible exact H2_) | with_reducible exact H | (rw [hy210]; exact H) | exact H
                              have Ny210 := Aside0.mk hy210
                              clear hy210
                              have H' := Aside0.mk H
                              clear H
                              have hcz41_0 : wc.cell? ⟨gb206, 0, none⟩ = some (.int .i64 x207000_35) := (blk_cell BK206.out 0).trans rfl
                              have hcz41_1 : wc.cell? ⟨gb206, 1, none⟩ = some (.int .i64 x207001_35) := (blk_cell BK206.out 1).trans rfl
                              have hcz41_2 : wc.cell? ⟨gb206, 2, none⟩ = some (.int .i64 x207002_35) := (blk_cell BK206.out 2).trans rfl
                              have hcz41_3 : wc.cell? ⟨gb206, 3, none⟩ = some (.int .i64 x207003_35) := (blk_cell BK206.out 3).trans rfl
                              have hcz41_4 : wc.cell? ⟨gb206, 4, none⟩ = some (.int .u64 x207004_35) := (blk_cell BK206.out 4).trans rfl
                              have hfz41_0 := blk_frozen BK206.out 0
                              have hfz41_1 := blk_frozen BK206.out 1
                              have hfz41_2 := blk_frozen BK206.out 2
                              have hfz41_3 := blk_frozen BK206.out 3
                              have hfz41_4 := blk_frozen BK206.out 4
                              go_wp2_with (first | ((with_reducible refine gate_callee (f := 60) rfl ?_); refine goesL_ (some 88) rfl rfl Tryd.func60 (by kernel_rfl) rfl #[.agg #[.int .i64 x207000_35, .int .i64 x207001_35, .int .i64 x207002_35, .int .i64 x207003_35, .int .u64 x207004_35]] rfl (by (try simp only [List.map_toArray, List.map_cons, List.map_nil]); first | done | rfl | (simp only [List.length_drop, List.length_take]; rfl)) ?_; (with_reducible refine (lockfastref10_Encode.calls x207000_35 x207001_35 x207002_35 x207003_35 x207004_35 t208 t209 _ A39.out).mono ?_); rintro e w42 ⟨rfl, hb⟩; refine ⟨_, rfl, ?_⟩; have n0_ := Aside0.mk (Kd.R_below (by (with_reducible repeat (first | apply Kd.R_alloc | apply Kd.R_drewN | apply Kd.R_drew)); exact HO_5.out) hb); have n1_ := Aside0.mk (blk_below (g := gb206) (o := .cells #[.int .i64 x207000_35, .int .i64 x207001_35, .int .i64 x207002_35, .int .i64 x207003_35, .int .u64 x207004_35] 29 (0, 0)) (by (with_reducible repeat (first | refine blk_drewN ?_ _ | refine blk_drew ?_ | refine blk_alloc ?_ _)); exact BK206.out) hb); have n2_ := Aside0.mk (below_step (by repeat (first | (with_reducible first | exact HB.out | apply below_alloc | apply pw_below_drewN | apply below_drew1 | refine below_set ?_ GE206.out) | exact HB.out)) hb); clear HO_5; clear BK206; clear HB; have HO_5 := n0_; have BK206 := n1_; have HB := n2_; clear n0_ n1_ n2_; (try clear hb); (try clear hb2); (try clear hk); (try clear hi)) | ((with_reducible refine gate_builtin (b := .append) (xs := #[.tmp 91, .tmp 93]) rfl ?_); (try (refine gate_guard (by rfl) ?_; dsimp only)); at_builtin; refine Kd.R_append (Kd.int .u64) (w0 := w) w.heap.size rfl (.tmp 91) (.tmp 93) 22 27 (.int .u64 0) 8 rfl Tryd.underlying22 info27 rfl (by decide) (by omega) u5 x5_1 t208 [.int .u64 t208] (fun _ => True) (fun _ => False) rfl rfl ?aP (fun _ hk => hk.elim) ?aF ?aO ?aB ?aS ?aL ?_; (case aP => exact rfl); (case aB => exact (by repeat (first | (with_reducible first | exact HB.out | apply below_alloc | apply pw_below_drewN | apply below_drew1 | refine below_set ?_ GE206.out) | exact HB.out))); (case aF => exact (fun _ _ => trivial)); (case aO => exact (by (with_reducible repeat (first | apply Kd.R_alloc | apply Kd.R_drewN | apply Kd.R_drew)); exact HO_5.out)); (case aS => exact (below_size (by repeat (first | (with_reducible first | exact HB.out | apply below_alloc | apply pw_below_drewN | apply below_drew1 | refine below_set ?_ GE206.out) | exact HB.out)))); (case aL => have := LMc40.out; omega); intro v211 w43 ho hb hg hat; rw [← Ny210.out] at ho; have n0_ := Aside0.mk (blk_grown (g := gb206) (o := .cells #[.int .i64 x207000_35, .int .i64 x207001_35, .int .i64 x207002_35, .int .i64 x207003_35, .int .u64 x207004_35] 29 (0, 0)) (by (with_reducible repeat (first | refine blk_drewN ?_ _ | refine blk_drew ?_ | refine blk_alloc ?_ _)); exact BK206.out) hg (Kd.R_ne HO_5.out BK206.out (by decide))); have n1_ := Aside0.mk (hb); have n2_ := Aside0.mk (ho); clear BK206; clear HB; clear HO_5; have BK206 := n0_; have HB := n1_; have HO212 := n2_; clear n0_ n1_ n2_; clear ho hb hg hat))
                              go_loopg [5, 11] kj35 (fun kq v5 v11 w' => ∃ (x5_6 : List Int) (x11_6 : Int), v11 = .int .i64 x11_6 ∧ Aside0 (lockfastref11_Made.l1 kq l0 a1 x5_6 x6_1 x11_6 x207000_35 x207001_35 x207002_35 x207003_35 x207004_35 = some r) ∧ Aside0 (kq ≤ kj35) ∧ Aside0 (Kd.R (Kd.int .u64) 27 w' w.heap.size (fun _ => True) v5 x5_6) ∧ Aside0 (w'.heap[gb206]? = some (.cells #[.int .i64 x207000_35, .int .i64 x207001_35, .int .i64 x207002_35, .int .i64 x207003_35, .int .u64 x207004_35] 29 (0, 0))) ∧ Aside0 (Below w.heap.size w w'))
                              case atStart => exact ⟨(y210), (1), (by first | rfl | (simp; done) | (simp [*]; done)), H', ⟨Nat.le_refl _⟩, ⟨by (with_reducible repeat (first | apply Kd.R_alloc | apply Kd.R_drewN | apply Kd.R_drew)); exact HO212.out⟩, ⟨by (with_reducible repeat (first | refine blk_drewN ?_ _ | refine blk_drew ?_ | refine blk_alloc ?_ _)); exact BK206.out⟩, ⟨by repeat (first | (with_reducible first | exact HB.out | apply below_alloc | apply pw_below_drewN | apply below_drew1 | refine below_set ?_ GE206.out) | exact HB.out)⟩⟩
                              case round =>
                                clear H'
                                try clear c1
                                try clear c2
                                try clear p2
                                try clear q2
                                try clear hx2
                                try clear c3
                                try clear c4
                                try clear c4b0
                                try clear c6
                                try clear p6
                                try clear c7
                                try clear c7b0
                                try clear c8
                                try clear c8b0
                                try clear c13
                                try clear c13b0
                                try clear c13b1
                                try clear c14
                                try clear c16
                                try clear c16b0
                                try clear c16b1
                                try clear c18
                                try clear c18b0
                                try clear c18b1
                                try clear c20
                                try clear p20
                                try clear q20
                                try clear hx20
                                try clear c23
                                try clear c23b0
                                try clear c23b1
                                try clear c25
                                try clear c25b0
                                try clear c25b1
                                try clear c26
                                try clear c27
                                try clear c27b0
                                try clear c27b1
                                try clear c31
                                try clear c31b0
                                try clear c37
                                try clear c40
                                try clear hcz11_0
                                try clear hcz11_1
                                try clear hcz11_2
                                try clear hcz11_3
                                try clear hcz11_4
                                try clear hcz19_0
                                try clear hcz19_1
                                try clear hcz19_2
                                try clear hcz19_3
                                try clear hcz19_4
                                try clear hcz24_0
                                try clear hcz24_1
                                try clear hcz24_2
                                try clear hcz24_3
                                try clear hcz24_4
                                try clear hcz26_0
                                try clear hcz26_1
                                try clear hcz26_2
                                try clear hcz26_3
                                try clear hcz26_4
                                try clear hcz28_0
                                try clear hcz28_1
                                try clear hcz28_2
                                try clear hcz28_3
                                try clear hcz28_4
                                try clear hcz33_0
                                try clear hcz33_1
                                try clear hcz33_2
                                try clear hcz33_3
                                try clear hcz33_4
                                try clear hcz35_0
                                try clear hcz35_1
                                try clear hcz35_2
                                try clear hcz35_3
                                try clear hcz35_4
                                try clear hcz38_0
                                try clear hcz38_1
                                try clear hcz38_2
                                try clear hcz38_3
                                try clear hcz38_4
                                try clear hcz41_0
                                try clear hcz41_1
                                try clear hcz41_2
                                try clear hcz41_3
                                try clear hcz41_4
                                try clear hfz11_0
                                try clear hfz11_1
                                try clear hfz11_2
                                try clear hfz11_3
                                try clear hfz11_4
                                try clear hfz19_0
                                try clear hfz19_1
                                try clear hfz19_2
                                try clear hfz19_3
                                try clear hfz19_4
                                try clear hfz24_0
                                try clear hfz24_1
                                try clear hfz24_2
                                try clear hfz24_3
                                try clear hfz24_4
                                try clear hfz26_0
                                try clear hfz26_1
                                try clear hfz26_2
                                try clear hfz26_3
                                try clear hfz26_4
                                try clear hfz28_0
                                try clear hfz28_1
                                try clear hfz28_2
                                try clear hfz28_3
                                try clear hfz28_4
                                try clear hfz33_0
                                try clear hfz33_1
                                try clear hfz33_2
                                try clear hfz33_3
                                try clear hfz33_4
                                try clear hfz35_0
                                try clear hfz35_1
                                try clear hfz35_2
                                try clear hfz35_3
                                try clear hfz35_4
                                try clear hfz38_0
                                try clear hfz38_1
                                try clear hfz38_2
                                try clear hfz38_3
                                try clear hfz38_4
                                try clear hfz41_0
                                try clear hfz41_1
                                try clear hfz41_2
                                try clear hfz41_3
                                try clear hfz41_4
                                try clear hx205_0
                                try clear p2
                                try clear p20
                                try clear p205
                                try clear p6
                                try clear q2
                                try clear q20
                                try clear q205
                                obtain ⟨x5_6, x11_6, rfl, HA, HK6, HO_5, BK206, HB⟩ := hrel
                                cases gk with
                                | zero => exact absurd HA.out (by simp [lockfastref11_Made.l1])
                                | succ k6 =>
                                  have H := HA.out
                                  clear HA
                                  simp only [lockfastref11_Made.l1] at H
                                  by_cases c44 : x207000_35 = 2
                                  · rw [if_pos c44] at H
                                    have c44b0 : (x207000_35 == 2) = true := beq_iff_eq.mpr c44
                                    have c44b1 : (x207000_35 != 2) = false := bne_eq_false_iff_eq.mpr c44
                                    clear c44
                                    by_cases c45 : x11_6 < x207003_35
                                    · rw [if_pos c45] at H
                                      have c45b0 : decide (x11_6 < x207003_35) = true := decide_eq_true c45
                                      clear c45
                                      by_cases c46 : x5_6.length < 17592186044416
                                      · rw [if_pos c46] at H
                                        have LMc46 := Aside0.mk c46
                                        clear c46
                                        obtain ⟨y213, hy213⟩ : ∃ y_ : List Int, y_ = (x5_6 ++ [3]) := ⟨_, rfl⟩
                                        replace H : (lockfastref11_Made.l1 k6 l0 a1 y213 x6_1 (wrap64 (x11_6 + 1)) x207000_35 x207001_35 x207002_35 x207003_35 x207004_35) = some r := by first | (rw [hy213]; with_reducible exact H) | (have H2_ := (Option.bind_some _ _).symm.trans H; rw [hy213]; with_reducible exact H2_) | (have H2_ := (Option.bind_some _ _).symm.trans H; with_reducible exact H2_) | with_reducible exact H | (rw [hy213]; exact H) | exact H
                                        have Ny213 := Aside0.mk hy213
                                        clear hy213
                                        have H' := Aside0.mk H
                                        clear H
                                        have hcz47_0 : wr.cell? ⟨gb206, 0, none⟩ = some (.int .i64 x207000_35) := (blk_cell BK206.out 0).trans rfl
                                        have hcz47_1 : wr.cell? ⟨gb206, 1, none⟩ = some (.int .i64 x207001_35) := (blk_cell BK206.out 1).trans rfl
                                        have hcz47_2 : wr.cell? ⟨gb206, 2, none⟩ = some (.int .i64 x207002_35) := (blk_cell BK206.out 2).trans rfl
                                        have hcz47_3 : wr.cell? ⟨gb206, 3, none⟩ = some (.int .i64 x207003_35) := (blk_cell BK206.out 3).trans rfl
                                        have hcz47_4 : wr.cell? ⟨gb206, 4, none⟩ = some (.int .u64 x207004_35) := (blk_cell BK206.out 4).trans rfl
                                        have hfz47_0 := blk_frozen BK206.out 0
                                        have hfz47_1 := blk_frozen BK206.out 1
                                        have hfz47_2 := blk_frozen BK206.out 2
                                        have hfz47_3 := blk_frozen BK206.out 3
                                        have hfz47_4 := blk_frozen BK206.out 4
                                        go_wp2_with (first | ((with_reducible refine gate_builtin (b := .append) (xs := #[.tmp 106, .tmp 107]) rfl ?_); (try (refine gate_guard (by rfl) ?_; dsimp only)); at_builtin; refine Kd.R_append (Kd.int .u64) (w0 := w) w.heap.size rfl (.tmp 106) (.tmp 107) 22 27 (.int .u64 0) 8 rfl Tryd.underlying22 info27 rfl (by decide) (by omega) u5 x5_6 3 [.int .u64 3] (fun _ => True) (fun _ => False) rfl rfl ?aP (fun _ hk => hk.elim) ?aF ?aO ?aB ?aS ?aL ?_; (case aP => exact rfl); (case aB => exact (by repeat (first | (with_reducible first | exact HB.out | apply below_alloc | apply pw_below_drewN | apply below_drew1 | refine below_set ?_ GE206.out) | exact HB.out))); (case aF => exact (fun _ _ => trivial)); (case aO => exact (by (with_reducible repeat (first | apply Kd.R_alloc | apply Kd.R_drewN | apply Kd.R_drew)); exact HO_5.out)); (case aS => exact (below_size (by repeat (first | (with_reducible first | exact HB.out | apply below_alloc | apply pw_below_drewN | apply below_drew1 | refine below_set ?_ GE206.out) | exact HB.out)))); (case aL => have := LMc46.out; omega); intro v214 w48 ho hb hg hat; rw [← Ny213.out] at ho; have n0_ := Aside0.mk (blk_grown (g := gb206) (o := .cells #[.int .i64 x207000_35, .int .i64 x207001_35, .int .i64 x207002_35, .int .i64 x207003_35, .int .u64 x207004_35] 29 (0, 0)) (by (with_reducible repeat (first | refine blk_drewN ?_ _ | refine blk_drew ?_ | refine blk_alloc ?_ _)); exact BK206.out) hg (Kd.R_ne HO_5.out BK206.out (by decide))); have n1_ := Aside0.mk (hb); have n2_ := Aside0.mk (ho); clear BK206; clear HB; clear HO_5; have BK206 := n0_; have HB := n1_; have HO215 := n2_; clear n0_ n1_ n2_; clear ho hb hg hat))
                                        go_roundg k6
                                        case measure => have := HK1.out; have := HJ2.out; have := HJ8.out; have := HJ28.out; have := HJ35.out; have := HK6.out; omega
                                        case rel => exact ⟨(y213), (wrap64 (x11_6 + 1)), (by first | rfl | (simp; done) | (simp [*]; done)), H', ⟨by have := HK1.out; have := HJ2.out; have := HJ8.out; have := HJ28.out; have := HJ35.out; have := HK6.out; omega⟩, ⟨by (with_reducible repeat (first | apply Kd.R_alloc | apply Kd.R_drewN | apply Kd.R_drew)); exact HO215.out⟩, ⟨by (with_reducible repeat (first | refine blk_drewN ?_ _ | refine blk_drew ?_ | refine blk_alloc ?_ _)); exact BK206.out⟩, ⟨by repeat (first | (with_reducible first | exact HB.out | apply below_alloc | apply pw_below_drewN | apply below_drew1 | refine below_set ?_ GE206.out) | exact HB.out)⟩⟩
                                      · rw [if_neg c46] at H
                                        exact absurd H (by simp)
                                    · rw [if_neg c45] at H
                                      have c45b0 : decide (x11_6 < x207003_35) = false := decide_eq_false c45
                                      clear c45
                                      have H' := Aside0.mk H
                                      clear H
                                      have hcz49_0 : wr.cell? ⟨gb206, 0, none⟩ = some (.int .i64 x207000_35) := (blk_cell BK206.out 0).trans rfl
                                      have hcz49_1 : wr.cell? ⟨gb206, 1, none⟩ = some (.int .i64 x207001_35) := (blk_cell BK206.out 1).trans rfl
                                      have hcz49_2 : wr.cell? ⟨gb206, 2, none⟩ = some (.int .i64 x207002_35) := (blk_cell BK206.out 2).trans rfl
                                      have hcz49_3 : wr.cell? ⟨gb206, 3, none⟩ = some (.int .i64 x207003_35) := (blk_cell BK206.out 3).trans rfl
                                      have hcz49_4 : wr.cell? ⟨gb206, 4, none⟩ = some (.int .u64 x207004_35) := (blk_cell BK206.out 4).trans rfl
                                      have hfz49_0 := blk_frozen BK206.out 0
                                      have hfz49_1 := blk_frozen BK206.out 1
                                      have hfz49_2 := blk_frozen BK206.out 2
                                      have hfz49_3 := blk_frozen BK206.out 3
                                      have hfz49_4 := blk_frozen BK206.out 4
                                      go_wp2
                                      go_roundg k6
                                      case measure => have := HK1.out; have := HJ2.out; have := HJ8.out; have := HJ28.out; have := HJ35.out; have := HK6.out; omega
                                      case rel => exact ⟨(x5_6), (wrap64 (x6_1 + 1)), (by first | rfl | (simp; done) | (simp [*]; done)), H', ⟨by have := HK1.out; have := HJ2.out; have := HJ8.out; have := HJ28.out; have := HJ35.out; have := HK6.out; omega⟩, ⟨by (with_reducible repeat (first | apply Kd.R_alloc | apply Kd.R_drewN | apply Kd.R_drew)); exact HO_5.out⟩, ⟨by repeat (first | (with_reducible first | exact HB.out | apply below_alloc | apply pw_below_drewN | apply below_drew1 | refine below_set ?_ GE206.out) | exact HB.out)⟩⟩
                                  · rw [if_neg c44] at H
                                    have c44b0 : (x207000_35 == 2) = false := beq_eq_false_iff_ne.mpr c44
                                    have c44b1 : (x207000_35 != 2) = true := bne_iff_ne.mpr c44
                                    have H' := Aside0.mk H
                                    clear H
                                    have hcz50_0 : wr.cell? ⟨gb206, 0, none⟩ = some (.int .i64 x207000_35) := (blk_cell BK206.out 0).trans rfl
                                    have hcz50_1 : wr.cell? ⟨gb206, 1, none⟩ = some (.int .i64 x207001_35) := (blk_cell BK206.out 1).trans rfl
                                    have hcz50_2 : wr.cell? ⟨gb206, 2, none⟩ = some (.int .i64 x207002_35) := (blk_cell BK206.out 2).trans rfl
                                    have hcz50_3 : wr.cell? ⟨gb206, 3, none⟩ = some (.int .i64 x207003_35) := (blk_cell BK206.out 3).trans rfl
                                    have hcz50_4 : wr.cell? ⟨gb206, 4, none⟩ = some (.int .u64 x207004_35) := (blk_cell BK206.out 4).trans rfl
                                    have hfz50_0 := blk_frozen BK206.out 0
                                    have hfz50_1 := blk_frozen BK206.out 1
                                    have hfz50_2 := blk_frozen BK206.out 2
                                    have hfz50_3 := blk_frozen BK206.out 3
                                    have hfz50_4 := blk_frozen BK206.out 4
                                    go_wp2
                                    go_roundg k6
                                    case measure => have := HK1.out; have := HJ2.out; have := HJ8.out; have := HJ28.out; have := HJ35.out; have := HK6.out; omega
                                    case rel => exact ⟨(x5_6), (wrap64 (x6_1 + 1)), (by first | rfl | (simp; done) | (simp [*]; done)), H', ⟨by have := HK1.out; have := HJ2.out; have := HJ8.out; have := HJ28.out; have := HJ35.out; have := HK6.out; omega⟩, ⟨by (with_reducible repeat (first | apply Kd.R_alloc | apply Kd.R_drewN | apply Kd.R_drew)); exact HO_5.out⟩, ⟨by repeat (first | (with_reducible first | exact HB.out | apply below_alloc | apply pw_below_drewN | apply below_drew1 | refine below_set ?_ GE206.out) | exact HB.out)⟩⟩
                            · rw [if_neg c40] at H
                              exact absurd H (by simp)
              · rw [if_neg c8] at H
                exact absurd H (by simp)
            · rw [if_neg c7] at H
              exact absurd H (by simp)
          · replace c6 := Bool.eq_false_iff.mpr c6
            subst c6
            have H1 : (some x5_1) = some r := by rw [if_neg (show ¬ (false = true) by decide)] at H; exact H
            clear H
            have H := H1
            clear H1
            obtain rfl := Option.some.inj H
            go_wp2
            go_ret
            exact ⟨_, by first | rfl | (simp [errW_none, errW_some] <;> rfl) | (simp [*, errW_none, errW_some] <;> rfl), by (with_reducible repeat (first | apply Kd.R_alloc | apply Kd.R_drewN | apply Kd.R_drew)); exact HO_5.out, by repeat (first | (with_reducible first | exact HB.out | apply below_alloc | apply pw_below_drewN | apply below_drew1) | exact HB.out)⟩

end Go.Proofs.YtflbmccjfnkflaaDoor.Q
