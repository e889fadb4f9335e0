-- Written by lfprint.py of this session's own, by way of the kit's print.py; with hand-made contracts.
import Derived.Test.YtccnoemcpmdeaaaQx0
import Derived.Test.YtccnoemcpmdeaaaQx2
import Derived.Test.YtccnoemcpmdeaaaQx3
import Derived.Test.YtccnoemcpmdeaaaQx7
import Derived.Test.YtccnoemcpmdeaaaQx10
namespace Go.Proofs.Ytccnoemcpmdeaaa.Q
open Go.RowKit Go.Proofs.YtccnoemcpmdeaaaW.PrintWords Go.Proofs.YtccnoemcpmdeaaaW.PrintLast Go.Proofs.YtccnoemcpmdeaaaW.PrintMore
attribute [local go_sem] max2_int min2_int max_two min_two max_three min_three max_four min_four   -- for this text's walks alone
set_option linter.unusedVariables false
set_option linter.unusedSimpArgs false

/-! ### lockfastlaw14_PieceCuts: function 4 -/
def lockfastlaw14_PieceCuts.l0 : Nat → List (S24) → Int → Int → Bool → Int → List (S24) → Int → Int → Int → Option (Bool)
  | 0, _, _, _, _, _, _, _, _, _ => none
  | k + 1, x0, x3, x4, x11, x13, x15, x16, x189000, x189001 => if x16 < x189001 then ((piece_At.f k x15 x16).bind fun t193 => ((piece_At.f k x0 (wrap64 (x189000 + x16))).bind fun t194 => (if t193 = t194 then (lockfastlaw14_PieceCuts.l0 k x0 x3 x4 x11 x13 x15 (wrap64 (x16 + 1)) x189000 x189001) else (some false)))) else (if x189001 = 0 then (none) else (if (wrap64 (x189001 - (Int.tmod (wrap64 (x3)) x189001))) = 0 then (none) else (if x11 = true then ((piece_Cut.f k x15 (Int.tmod (wrap64 (x3)) x189001) (wrap64 (1 + (Int.tmod (wrap64 (x4)) (wrap64 (x189001 - (Int.tmod (wrap64 (x3)) x189001))))))).bind fun t196 => ((piece_Cut.f k x0 (wrap64 (x189000 + (Int.tmod (wrap64 (x3)) x189001))) (wrap64 (1 + (Int.tmod (wrap64 (x4)) (wrap64 (x189001 - (Int.tmod (wrap64 (x3)) x189001))))))).bind fun t199 => ((lockfastref04_Same.f k t196 t199).bind fun t202 => (if t202 = true then ((piece_Cut.f k x0 x189000 (wrap64 ((wrap64 (x13 - x189000)) + 1))).bind fun t203 => (some ((t203.length : Int) == 0))) else (some false))))) else (some false))))
def lockfastlaw14_PieceCuts.f (k : Nat) (l0 : List (S24)) (a1 : Int) (a2 : Int) (a3 : Int) (a4 : Int) : Option (Bool) := (lockfastlaw14_awake.f k).bind fun t185 => ((lockfastref14_Few.f k l0).bind fun t186 => (if t186 = true then ((piece_Total.f k l0).bind fun t187 => (if t187 < 1 then (some t185) else (if t187 = 0 then (none) else (if (wrap64 (t187 - (Int.tmod (wrap64 (a1)) t187))) = 0 then (none) else ((piece_Cut.f k l0 (Int.tmod (wrap64 (a1)) t187) (wrap64 (1 + (Int.tmod (wrap64 (a2)) (wrap64 (t187 - (Int.tmod (wrap64 (a1)) t187))))))).bind fun t189 => ((piece_Total.f k t189).bind fun t192 => (if t192 = (wrap64 (1 + (Int.tmod (wrap64 (a2)) (wrap64 (t187 - (Int.tmod (wrap64 (a1)) t187)))))) then (lockfastlaw14_PieceCuts.l0 k l0 a3 a4 t185 t187 t189 0 (Int.tmod (wrap64 (a1)) t187) (wrap64 (1 + (Int.tmod (wrap64 (a2)) (wrap64 (t187 - (Int.tmod (wrap64 (a1)) t187))))))) else (some false)))))))) else (some t185)))
theorem lockfastlaw14_PieceCuts.mono_l : ∀ k, (∀ y0 y1 y2 y3 y4 y5 y6 y7 y8, LeO (lockfastlaw14_PieceCuts.l0 k y0 y1 y2 y3 y4 y5 y6 y7 y8) (lockfastlaw14_PieceCuts.l0 (k + 1) y0 y1 y2 y3 y4 y5 y6 y7 y8))
  | 0 => fun _ _ _ _ _ _ _ _ _ r h => by simp [lockfastlaw14_PieceCuts.l0] at h
  | k + 1 => by
    have ih0 := lockfastlaw14_PieceCuts.mono_l k
    · intro y0 y1 y2 y3 y4 y5 y6 y7 y8
      unfold lockfastlaw14_PieceCuts.l0
      repeat' first
      | (with_reducible exact ih0 _ _ _ _ _ _ _ _ _)
      | (with_reducible exact lockfastlaw14_awake.mono _)
      | (with_reducible exact lockfastref04_Same.mono _ _ _)
      | (with_reducible exact lockfastref14_Few.mono _ _)
      | (with_reducible exact piece_At.mono _ _ _)
      | (with_reducible exact piece_Cut.mono _ _ _ _)
      | (with_reducible exact piece_Total.mono _ _)
      | (with_reducible exact LeO.refl _)
      | (with_reducible exact LeO.none _)
      | (with_reducible refine LeO.ite ?_ ?_)
      | (with_reducible refine LeO.bind ?_ (fun _ => ?_))
      | exact ih0 _ _ _ _ _ _ _ _ _
      | exact lockfastlaw14_awake.mono _
      | exact lockfastref04_Same.mono _ _ _
      | exact lockfastref14_Few.mono _ _
      | exact piece_At.mono _ _ _
      | exact piece_Cut.mono _ _ _ _
      | exact piece_Total.mono _ _
      | exact LeO.none _
      | refine LeO.ite ?_ ?_
      | refine LeO.bind ?_ (fun _ => ?_)
theorem lockfastlaw14_PieceCuts.mono : ∀ a0 a1 a2 a3 a4 k, LeO (lockfastlaw14_PieceCuts.f k a0 a1 a2 a3 a4) (lockfastlaw14_PieceCuts.f (k + 1) a0 a1 a2 a3 a4) := by
  intro a0 a1 a2 a3 a4 k
  have ih0 := lockfastlaw14_PieceCuts.mono_l k
  unfold lockfastlaw14_PieceCuts.f
  repeat' first
      | (with_reducible exact ih0 _ _ _ _ _ _ _ _ _)
      | (with_reducible exact lockfastlaw14_awake.mono _)
      | (with_reducible exact lockfastref04_Same.mono _ _ _)
      | (with_reducible exact lockfastref14_Few.mono _ _)
      | (with_reducible exact piece_At.mono _ _ _)
      | (with_reducible exact piece_Cut.mono _ _ _ _)
      | (with_reducible exact piece_Total.mono _ _)
      | (with_reducible exact LeO.refl _)
      | (with_reducible exact LeO.none _)
      | (with_reducible refine LeO.ite ?_ ?_)
      | (with_reducible refine LeO.bind ?_ (fun _ => ?_))
      | exact ih0 _ _ _ _ _ _ _ _ _
      | exact lockfastlaw14_awake.mono _
      | exact lockfastref04_Same.mono _ _ _
      | exact lockfastref14_Few.mono _ _
      | exact piece_At.mono _ _ _
      | exact piece_Cut.mono _ _ _ _
      | exact piece_Total.mono _ _
      | exact LeO.none _
      | refine LeO.ite ?_ ?_
      | refine LeO.bind ?_ (fun _ => ?_)
def lockfastlaw14_PieceCuts.T16 : Bool × List (List Nat × List Nat) := (true, [([], []), ([], []), ([0, 1], [0, 1]), ([], []), ([], []), ([4], [4]), ([], []), ([5, 6], [5, 6]), ([3, 7, 2], [3, 7]), ([2, 8], [2, 8])])
def lockfastlaw14_PieceCuts.B16 : List Nat := [0, 0, 3, 0, 0, 16, 0, 112, 255, 511]
theorem lockfastlaw14_PieceCuts.tab16 : rtab .any (opsOf Try.f4 16) = lockfastlaw14_PieceCuts.T16 := by kernel_rfl
theorem lockfastlaw14_PieceCuts.bits16 : waitsOk lockfastlaw14_PieceCuts.T16.2 lockfastlaw14_PieceCuts.B16 = true := by kernel_rfl
def lockfastlaw14_PieceCuts.T20 : Bool × List (List Nat × List Nat) := (true, [([], []), ([0], [0]), ([1], [1]), ([1], [1]), ([2, 3, 1, 1], [1, 2, 3]), ([1], [1]), ([1], [1]), ([6, 1], [1, 6]), ([1], [1]), ([8, 1], [1, 8]), ([7, 9, 1], [1, 7, 9]), ([1], [1]), ([11, 1], [1, 11]), ([10, 12, 1], [1, 10, 12]), ([5, 13, 4, 1], [1, 5, 13]), ([4, 14, 14, 1], [1, 4, 14]), ([1, 15], [1, 15]), ([16, 15], [16]), ([17], [17]), ([17], [17]), ([19, 17], [17, 19]), ([17], [17]), ([17], [17]), ([22, 17], [17, 22]), ([21, 23, 17], [17, 21, 23]), ([24, 17], [17, 24]), ([20, 25, 17], [17, 20, 25]), ([18, 26, 17, 17], [17, 18, 26]), ([27, 17], [17, 27]), ([28, 17], [17, 28]), ([17, 29], [17, 29]), ([30, 27, 0, 1, 2, 3, 4, 5, 6, 7, 8, 9, 10, 11, 12, 13, 14, 15, 16, 17, 18, 19, 20, 21, 22, 23, 24, 25, 26, 27, 28, 29, 30], [30])])
def lockfastlaw14_PieceCuts.B20 : List Nat := [0, 1, 3, 3, 15, 3, 3, 67, 3, 259, 963, 3, 2051, 8131, 16383, 32767, 65535, 131071, 262143, 262143, 786431, 262143, 262143, 4456447, 14942207, 31719423, 66846719, 134217727, 268435455, 536870911, 1073741823, 2147483647]
theorem lockfastlaw14_PieceCuts.tab20 : rtab .any (opsOf Try.f4 20) = lockfastlaw14_PieceCuts.T20 := by kernel_rfl
theorem lockfastlaw14_PieceCuts.bits20 : waitsOk lockfastlaw14_PieceCuts.T20.2 lockfastlaw14_PieceCuts.B20 = true := by kernel_rfl
set_option maxHeartbeats 8000000 in
set_option maxRecDepth 100000 in
theorem lockfastlaw14_PieceCuts.calls (k : Nat) (A0 : Option Addr) (c0 : Nat) (l0 : List (S24)) (a1 : Int) (a2 : Int) (a3 : Int) (a4 : Int) (r : Bool) (w : World) (hr0 : Kd.C k24 w A0 l0.length l0) (hc0 : l0.length ≤ c0) (h : lockfastlaw14_PieceCuts.f k l0 a1 a2 a3 a4 = some r) :
    Calls Try.prog 4 #[.slice A0 l0.length c0, .int .u8 a1, .int .u8 a2, .int .u8 a3, .int .u8 a4] w fun e w' => e = .returned (.bool r) ∧ Below w.heap.size w w' := by
  have hu24 := Try.underlying24
  have HR0 := Aside0.mk hr0
  have HC0 := Aside0.mk hc0
  clear hr0 hc0
  have HB := Aside0.mk (Below.refl w.heap.size w)
  have H : ((lockfastlaw14_awake.f k).bind fun t185 => ((lockfastref14_Few.f k l0).bind fun t186 => (if t186 = true then ((piece_Total.f k l0).bind fun t187 => (if t187 < 1 then (some t185) else (if t187 = 0 then (none) else (if (wrap64 (t187 - (Int.tmod (wrap64 (a1)) t187))) = 0 then (none) else ((piece_Cut.f k l0 (Int.tmod (wrap64 (a1)) t187) (wrap64 (1 + (Int.tmod (wrap64 (a2)) (wrap64 (t187 - (Int.tmod (wrap64 (a1)) t187))))))).bind fun t189 => ((piece_Total.f k t189).bind fun t192 => (if t192 = (wrap64 (1 + (Int.tmod (wrap64 (a2)) (wrap64 (t187 - (Int.tmod (wrap64 (a1)) t187)))))) then (lockfastlaw14_PieceCuts.l0 k l0 a3 a4 t185 t187 t189 0 (Int.tmod (wrap64 (a1)) t187) (wrap64 (1 + (Int.tmod (wrap64 (a2)) (wrap64 (t187 - (Int.tmod (wrap64 (a1)) t187))))))) else (some false)))))))) else (some t185)))) = some r := h
  clear h
  replace H := Option.bind_eq_some_iff.mp H
  obtain ⟨t185, A60, H⟩ := H
  replace H : ((lockfastref14_Few.f k l0).bind fun t186 => (if t186 = true then ((piece_Total.f k l0).bind fun t187 => (if t187 < 1 then (some t185) else (if t187 = 0 then (none) else (if (wrap64 (t187 - (Int.tmod (wrap64 (a1)) t187))) = 0 then (none) else ((piece_Cut.f k l0 (Int.tmod (wrap64 (a1)) t187) (wrap64 (1 + (Int.tmod (wrap64 (a2)) (wrap64 (t187 - (Int.tmod (wrap64 (a1)) t187))))))).bind fun t189 => ((piece_Total.f k t189).bind fun t192 => (if t192 = (wrap64 (1 + (Int.tmod (wrap64 (a2)) (wrap64 (t187 - (Int.tmod (wrap64 (a1)) t187)))))) then (lockfastlaw14_PieceCuts.l0 k l0 a3 a4 t185 t187 t189 0 (Int.tmod (wrap64 (a1)) t187) (wrap64 (1 + (Int.tmod (wrap64 (a2)) (wrap64 (t187 - (Int.tmod (wrap64 (a1)) t187))))))) else (some false)))))))) else (some t185))) = some r := H
  have A6 := Aside0.mk A60
  clear A60
  replace H := Option.bind_eq_some_iff.mp H
  obtain ⟨t186, A70, H⟩ := H
  replace H : (if t186 = true then ((piece_Total.f k l0).bind fun t187 => (if t187 < 1 then (some t185) else (if t187 = 0 then (none) else (if (wrap64 (t187 - (Int.tmod (wrap64 (a1)) t187))) = 0 then (none) else ((piece_Cut.f k l0 (Int.tmod (wrap64 (a1)) t187) (wrap64 (1 + (Int.tmod (wrap64 (a2)) (wrap64 (t187 - (Int.tmod (wrap64 (a1)) t187))))))).bind fun t189 => ((piece_Total.f k t189).bind fun t192 => (if t192 = (wrap64 (1 + (Int.tmod (wrap64 (a2)) (wrap64 (t187 - (Int.tmod (wrap64 (a1)) t187)))))) then (lockfastlaw14_PieceCuts.l0 k l0 a3 a4 t185 t187 t189 0 (Int.tmod (wrap64 (a1)) t187) (wrap64 (1 + (Int.tmod (wrap64 (a2)) (wrap64 (t187 - (Int.tmod (wrap64 (a1)) t187))))))) else (some false)))))))) else (some t185)) = some r := H
  have A7 := Aside0.mk A70
  clear A70
  by_cases c8 : t186 = true
  · subst c8
    have H1 : ((piece_Total.f k l0).bind fun t187 => (if t187 < 1 then (some t185) else (if t187 = 0 then (none) else (if (wrap64 (t187 - (Int.tmod (wrap64 (a1)) t187))) = 0 then (none) else ((piece_Cut.f k l0 (Int.tmod (wrap64 (a1)) t187) (wrap64 (1 + (Int.tmod (wrap64 (a2)) (wrap64 (t187 - (Int.tmod (wrap64 (a1)) t187))))))).bind fun t189 => ((piece_Total.f k t189).bind fun t192 => (if t192 = (wrap64 (1 + (Int.tmod (wrap64 (a2)) (wrap64 (t187 - (Int.tmod (wrap64 (a1)) t187)))))) then (lockfastlaw14_PieceCuts.l0 k l0 a3 a4 t185 t187 t189 0 (Int.tmod (wrap64 (a1)) t187) (wrap64 (1 + (Int.tmod (wrap64 (a2)) (wrap64 (t187 - (Int.tmod (wrap64 (a1)) t187))))))) else (some false)))))))) = some r := by rw [if_pos rfl] at H; exact H
    clear H
    have H := H1
    clear H1
    replace H := Option.bind_eq_some_iff.mp H
    obtain ⟨t187, A90, H⟩ := H
    replace H : (if t187 < 1 then (some t185) else (if t187 = 0 then (none) else (if (wrap64 (t187 - (Int.tmod (wrap64 (a1)) t187))) = 0 then (none) else ((piece_Cut.f k l0 (Int.tmod (wrap64 (a1)) t187) (wrap64 (1 + (Int.tmod (wrap64 (a2)) (wrap64 (t187 - (Int.tmod (wrap64 (a1)) t187))))))).bind fun t189 => ((piece_Total.f k t189).bind fun t192 => (if t192 = (wrap64 (1 + (Int.tmod (wrap64 (a2)) (wrap64 (t187 - (Int.tmod (wrap64 (a1)) t187)))))) then (lockfastlaw14_PieceCuts.l0 k l0 a3 a4 t185 t187 t189 0 (Int.tmod (wrap64 (a1)) t187) (wrap64 (1 + (Int.tmod (wrap64 (a2)) (wrap64 (t187 - (Int.tmod (wrap64 (a1)) t187))))))) else (some false))))))) = some r := H
    have A9 := Aside0.mk A90
    clear A90
    by_cases c10 : t187 < 1
    · rw [if_pos c10] at H
      have c10b0 : decide (t187 < 1) = true := decide_eq_true c10
      clear c10
      obtain rfl := Option.some.inj H
      go_enter Try.func4, Try.ntmps4
      go_wp2_with (first | ((with_reducible refine gate_callee (f := 8) rfl ?_); refine goesL_ (some 18) rfl rfl Try.func8 (by kernel_rfl) rfl #[] rfl (by (try simp only [List.map_toArray, List.map_cons, List.map_nil]); first | done | rfl | (simp only [List.length_drop, List.length_take]; rfl)) ?_; (with_reducible refine (lockfastlaw14_awake.calls k  t185 _ A6.out).mono ?_); rintro e w11 ⟨rfl, hb⟩; refine ⟨_, rfl, ?_⟩; have n0_ := Aside0.mk (below_step (by repeat (first | (with_reducible first | exact HB.out | apply below_alloc | apply pw_below_drewN | apply below_drew1) | exact HB.out)) hb); clear HB; have HB := n0_; clear n0_; (try clear hb); (try clear hb2); (try clear hk); (try clear hi)) | ((with_reducible refine gate_callee (f := 9) rfl ?_); refine goesL_ (some 20) rfl rfl Try.func9 (by kernel_rfl) rfl #[.slice A0 l0.length c0] rfl (by (try simp only [List.map_toArray, List.map_cons, List.map_nil]); first | done | rfl | (simp only [List.length_drop, List.length_take]; rfl)) ?_; (with_reducible refine (lockfastref14_Few.calls k _ _ l0 true _ ?side1 ?side2 A7.out).mono ?_); (case side1 => repeat (first | exact (Kd.C_below HR0.out HB.out) | (with_reducible refine Kd.C_alloc ?_ _) | (with_reducible refine Kd.C_drewN ?_ _) | (with_reducible refine Kd.C_drew ?_))); (case side2 => exact HC0.out); rintro e w' ⟨rfl, ⟨nd, rfl⟩⟩; refine ⟨_, rfl, ?_⟩) | ((with_reducible refine gate_callee (f := 10) rfl ?_); refine goesL_ (some 25) rfl rfl Try.func10 (by kernel_rfl) rfl #[.slice A0 l0.length c0] rfl (by (try simp only [List.map_toArray, List.map_cons, List.map_nil]); first | done | rfl | (simp only [List.length_drop, List.length_take]; rfl)) ?_; (with_reducible refine (piece_Total.calls k _ _ l0 t187 _ ?side1 ?side2 A9.out).mono ?_); (case side1 => repeat (first | exact (Kd.C_below HR0.out (by repeat (first | (with_reducible first | exact HB.out | apply below_alloc | apply pw_below_drewN | apply below_drew1) | exact HB.out))) | (with_reducible refine Kd.C_alloc ?_ _) | (with_reducible refine Kd.C_drewN ?_ _) | (with_reducible refine Kd.C_drew ?_))); (case side2 => exact HC0.out); rintro e w12 ⟨rfl, hb⟩; refine ⟨_, rfl, ?_⟩; have n0_ := Aside0.mk (below_step (by repeat (first | (with_reducible first | exact HB.out | apply below_alloc | apply pw_below_drewN | apply below_drew1) | exact HB.out)) hb); clear HB; have HB := n0_; clear n0_; (try clear hb); (try clear hb2); (try clear hk); (try clear hi)))
      go_ret
      exact ⟨by first | rfl | (simp [errW_none, errW_some] <;> rfl) | (simp [*, errW_none, errW_some] <;> rfl), by repeat (first | (with_reducible first | exact HB.out | apply below_alloc | apply pw_below_drewN | apply below_drew1) | exact HB.out)⟩
    · rw [if_neg c10] at H
      have c10b0 : decide (t187 < 1) = false := decide_eq_false c10
      clear c10
      by_cases c13 : t187 = 0
      · rw [if_pos c13] at H
        exact absurd H (by simp)
      · rw [if_neg c13] at H
        have c13b0 : (t187 == 0) = false := beq_eq_false_iff_ne.mpr c13
        have c13b1 : (t187 != 0) = true := bne_iff_ne.mpr c13
        by_cases c14 : (wrap64 (t187 - (Int.tmod (wrap64 (a1)) t187))) = 0
        · rw [if_pos c14] at H
          exact absurd H (by simp)
        · rw [if_neg c14] at H
          have c14b0 : ((wrap64 (t187 - (Int.tmod (wrap64 (a1)) t187))) == 0) = false := beq_eq_false_iff_ne.mpr c14
          have c14b1 : ((wrap64 (t187 - (Int.tmod (wrap64 (a1)) t187))) != 0) = true := bne_iff_ne.mpr c14
          replace H := Option.bind_eq_some_iff.mp H
          obtain ⟨t189, A150, H⟩ := H
          replace H : ((piece_Total.f k t189).bind fun t192 => (if t192 = (wrap64 (1 + (Int.tmod (wrap64 (a2)) (wrap64 (t187 - (Int.tmod (wrap64 (a1)) t187)))))) then (lockfastlaw14_PieceCuts.l0 k l0 a3 a4 t185 t187 t189 0 (Int.tmod (wrap64 (a1)) t187) (wrap64 (1 + (Int.tmod (wrap64 (a2)) (wrap64 (t187 - (Int.tmod (wrap64 (a1)) t187))))))) else (some false))) = some r := H
          have A15 := Aside0.mk A150
          clear A150
          replace H := Option.bind_eq_some_iff.mp H
          obtain ⟨t192, A160, H⟩ := H
          replace H : (if t192 = (wrap64 (1 + (Int.tmod (wrap64 (a2)) (wrap64 (t187 - (Int.tmod (wrap64 (a1)) t187)))))) then (lockfastlaw14_PieceCuts.l0 k l0 a3 a4 t185 t187 t189 0 (Int.tmod (wrap64 (a1)) t187) (wrap64 (1 + (Int.tmod (wrap64 (a2)) (wrap64 (t187 - (Int.tmod (wrap64 (a1)) t187))))))) else (some false)) = some r := H
          have A16 := Aside0.mk A160
          clear A160
          by_cases c17 : t192 = (wrap64 (1 + (Int.tmod (wrap64 (a2)) (wrap64 (t187 - (Int.tmod (wrap64 (a1)) t187))))))
          · rw [if_pos c17] at H
            have c17b0 : (t192 == (wrap64 (1 + (Int.tmod (wrap64 (a2)) (wrap64 (t187 - (Int.tmod (wrap64 (a1)) t187))))))) = true := beq_iff_eq.mpr c17
            have c17b1 : (t192 != (wrap64 (1 + (Int.tmod (wrap64 (a2)) (wrap64 (t187 - (Int.tmod (wrap64 (a1)) t187))))))) = false := bne_eq_false_iff_eq.mpr c17
            clear c17
            have H' := Aside0.mk H
            clear H
            go_enter Try.func4, Try.ntmps4
            try go_wp2_with (first | ((with_reducible refine gate_callee (f := 8) rfl ?_); refine goesL_ (some 18) rfl rfl Try.func8 (by kernel_rfl) rfl #[] rfl (by (try simp only [List.map_toArray, List.map_cons, List.map_nil]); first | done | rfl | (simp only [List.length_drop, List.length_take]; rfl)) ?_; (with_reducible refine (lockfastlaw14_awake.calls k  t185 _ A6.out).mono ?_); rintro e w18 ⟨rfl, hb⟩; refine ⟨_, rfl, ?_⟩; have n0_ := Aside0.mk (below_step (by repeat (first | (with_reducible first | exact HB.out | apply below_alloc | apply pw_below_drewN | apply below_drew1) | exact HB.out)) hb); clear HB; have HB := n0_; clear n0_; (try clear hb); (try clear hb2); (try clear hk); (try clear hi)) | ((with_reducible refine gate_callee (f := 9) rfl ?_); refine goesL_ (some 20) rfl rfl Try.func9 (by kernel_rfl) rfl #[.slice A0 l0.length c0] rfl (by (try simp only [List.map_toArray, List.map_cons, List.map_nil]); first | done | rfl | (simp only [List.length_drop, List.length_take]; rfl)) ?_; (with_reducible refine (lockfastref14_Few.calls k _ _ l0 true _ ?side1 ?side2 A7.out).mono ?_); (case side1 => repeat (first | exact (Kd.C_below HR0.out HB.out) | (with_reducible refine Kd.C_alloc ?_ _) | (with_reducible refine Kd.C_drewN ?_ _) | (with_reducible refine Kd.C_drew ?_))); (case side2 => exact HC0.out); rintro e w' ⟨rfl, ⟨nd, rfl⟩⟩; refine ⟨_, rfl, ?_⟩; (try (rw [drewN_self w18]; generalize hq_ : World.drewN w18 _ = w18; have n0_ : Aside0 (Below w.heap.size w w18) := ⟨by rw [← hq_]; exact (by repeat (first | (with_reducible first | exact HB.out | apply below_alloc | apply pw_below_drewN | apply below_drew1) | exact HB.out))⟩; clear HB hq_; have HB := n0_; clear n0_))) | ((with_reducible refine gate_callee (f := 10) rfl ?_); refine goesL_ (some 25) rfl rfl Try.func10 (by kernel_rfl) rfl #[.slice A0 l0.length c0] rfl (by (try simp only [List.map_toArray, List.map_cons, List.map_nil]); first | done | rfl | (simp only [List.length_drop, List.length_take]; rfl)) ?_; (with_reducible refine (piece_Total.calls k _ _ l0 t187 _ ?side1 ?side2 A9.out).mono ?_); (case side1 => repeat (first | exact (Kd.C_below HR0.out HB.out) | (with_reducible refine Kd.C_alloc ?_ _) | (with_reducible refine Kd.C_drewN ?_ _) | (with_reducible refine Kd.C_drew ?_))); (case side2 => exact HC0.out); rintro e w19 ⟨rfl, hb⟩; refine ⟨_, rfl, ?_⟩; have n0_ := Aside0.mk (below_step (by repeat (first | (with_reducible first | exact HB.out | apply below_alloc | apply pw_below_drewN | apply below_drew1) | exact HB.out)) hb); clear HB; have HB := n0_; clear n0_; (try clear hb); (try clear hb2); (try clear hk); (try clear hi)) | ((with_reducible refine gate_dst (N := 14) rfl ?_); (try (refine gate_guard (by rfl) ?_; dsimp only)); refine box_event ?hg (N := 14) ?hd (cs := #[.int .i64 0, .int .i64 0]) (t := 24) ?hr ?_; (case hd => rfl); (case hg => rfl); (case hr => first | (go_simp; done) | (go_simp; rfl)); intro gb188 hg w20 hbox hb; have n0_ := Aside0.mk (below_step (by repeat (first | (with_reducible first | exact HB.out | apply below_alloc | apply pw_below_drewN | apply below_drew1) | exact HB.out)) hb); have n1_ := Aside0.mk (hbox); have n2_ := Aside0.mk ((by rw [hg]; exact (below_size (by repeat (first | (with_reducible first | exact HB.out | apply below_alloc | apply pw_below_drewN | apply below_drew1) | exact HB.out))) : w.heap.size ≤ gb188)); have n3_ := Aside0.mk ((by rw [hg]; exact (below_size (by repeat (first | (with_reducible first | exact HB.out | apply below_alloc | apply pw_below_drewN | apply below_drew1) | exact HB.out))) : w.heap.size ≤ gb188)); clear HB; have HB := n0_; have BK188 := n1_; have GW188 := n2_; have GE188 := n3_; clear n0_ n1_ n2_ n3_; clear hb hbox hg; have hcz21_0 : w20.cell? ⟨gb188, 0, none⟩ = some (.int .i64 0) := (blk_cell BK188.out 0).trans rfl; have hcz21_1 : w20.cell? ⟨gb188, 1, none⟩ = some (.int .i64 0) := (blk_cell BK188.out 1).trans rfl; have hdbl_ := fun (x y z : Value) => dbl_ BK188.out x y z; have hfz21_0 := blk_frozen BK188.out 0; have hfz21_1 := blk_frozen BK188.out 1) | ((with_reducible refine gate_callee (f := 15) rfl ?_); refine goesL_ (some 45) rfl rfl Try.func15 (by kernel_rfl) rfl #[.slice A0 l0.length c0, .agg #[.int .i64 (Int.tmod (wrap64 (a1)) t187), .int .i64 (wrap64 (1 + (Int.tmod (wrap64 (a2)) (wrap64 (t187 - (Int.tmod (wrap64 (a1)) t187))))))]] rfl (by (try simp only [List.map_toArray, List.map_cons, List.map_nil]); first | done | rfl | (simp only [List.length_drop, List.length_take]; rfl)) ?_; (with_reducible refine (piece_Cut.calls k _ _ l0 (Int.tmod (wrap64 (a1)) t187) (wrap64 (1 + (Int.tmod (wrap64 (a2)) (wrap64 (t187 - (Int.tmod (wrap64 (a1)) t187)))))) t189 _ ?side1 ?side2 A15.out).mono ?_); (case side1 => exact Kd.C_below HR0.out (by repeat (first | (with_reducible first | exact HB.out | apply below_alloc | apply pw_below_drewN | apply below_drew1 | refine below_set ?_ GE188.out) | exact HB.out))); (case side2 => exact HC0.out); rintro e w22 ⟨v190, rfl, ho0, hb⟩; refine ⟨_, rfl, ?_⟩; have n0_ := Aside0.mk (Kd.R_lower (Kd.R_newB ho0 (g := gb188) (o := .cells #[.int .i64 (Int.tmod (wrap64 (a1)) t187), .int .i64 (wrap64 (1 + (Int.tmod (wrap64 (a2)) (wrap64 (t187 - (Int.tmod (wrap64 (a1)) t187))))))] 24 (0, 0)) (by (with_reducible repeat (first | refine blk_drewN ?_ _ | refine blk_drew ?_ | refine blk_alloc ?_ _)); refine blk_put (cs := #[.int .i64 (Int.tmod (wrap64 (a1)) t187), .int .i64 0]) ?_ 1 _ rfl; (with_reducible repeat (first | refine blk_drewN ?_ _ | refine blk_drew ?_ | refine blk_alloc ?_ _)); refine blk_put (cs := #[.int .i64 (Int.tmod (wrap64 (a1)) t187), .int .i64 0]) ?_ 1 _ rfl; (with_reducible repeat (first | refine blk_drewN ?_ _ | refine blk_drew ?_ | refine blk_alloc ?_ _)); refine blk_put (cs := #[.int .i64 0, .int .i64 0]) ?_ 0 _ rfl; (with_reducible repeat (first | refine blk_drewN ?_ _ | refine blk_drew ?_ | refine blk_alloc ?_ _)); exact BK188.out)) (below_size (by repeat (first | (with_reducible first | exact HB.out | apply below_alloc | apply pw_below_drewN | apply below_drew1 | refine below_set ?_ GE188.out) | exact HB.out)))); have n1_ := Aside0.mk (blk_below (g := gb188) (o := .cells #[.int .i64 (Int.tmod (wrap64 (a1)) t187), .int .i64 (wrap64 (1 + (Int.tmod (wrap64 (a2)) (wrap64 (t187 - (Int.tmod (wrap64 (a1)) t187))))))] 24 (0, 0)) (by (with_reducible repeat (first | refine blk_drewN ?_ _ | refine blk_drew ?_ | refine blk_alloc ?_ _)); refine blk_put (cs := #[.int .i64 (Int.tmod (wrap64 (a1)) t187), .int .i64 0]) ?_ 1 _ rfl; (with_reducible repeat (first | refine blk_drewN ?_ _ | refine blk_drew ?_ | refine blk_alloc ?_ _)); refine blk_put (cs := #[.int .i64 (Int.tmod (wrap64 (a1)) t187), .int .i64 0]) ?_ 1 _ rfl; (with_reducible repeat (first | refine blk_drewN ?_ _ | refine blk_drew ?_ | refine blk_alloc ?_ _)); refine blk_put (cs := #[.int .i64 0, .int .i64 0]) ?_ 0 _ rfl; (with_reducible repeat (first | refine blk_drewN ?_ _ | refine blk_drew ?_ | refine blk_alloc ?_ _)); exact BK188.out) hb); have n2_ := Aside0.mk (below_step (by repeat (first | (with_reducible first | exact HB.out | apply below_alloc | apply pw_below_drewN | apply below_drew1 | refine below_set ?_ GE188.out) | exact HB.out)) hb); clear BK188; clear HB; have HO191 := n0_; have BK188 := n1_; have HB := n2_; clear n0_ n1_ n2_; (try clear hb); (try clear hb2); (try clear hk); (try clear hi); (try clear ho0)))
            have n0_ := Aside0.mk (Kd.R_drew HO191.out)
            have n1_ := Aside0.mk (blk_drew BK188.out)
            have n2_ := Aside0.mk (below_drew1 HB.out)
            clear HO191
            clear BK188
            clear HB
            have HO191 := n0_
            have BK188 := n1_
            have HB := n2_
            clear n0_ n1_ n2_
            obtain ⟨Ao24, co24, eo24⟩ := Kd.R_slice HO191.out
            (first | subst eo24 | (injection eo24 with f1_ f2_ f3_; have f4_ := f1_.symm; have f5_ := f3_.symm; clear f1_ f2_ f3_; subst f4_; subst f5_))
            refine start_ (n := 5) (S := fun w' => w'.cell? ⟨gb188, 0, none⟩ = some (.int .i64 (Int.tmod (wrap64 (a1)) t187)) ∧ w'.cell? ⟨gb188, 1, none⟩ = some (.int .i64 (wrap64 (1 + (Int.tmod (wrap64 (a2)) (wrap64 (t187 - (Int.tmod (wrap64 (a1)) t187)))))))) (ds := []) #[false, false, false, false, false] (by kernel_rfl) rfl rfl ⟨(blk_cell BK188.out 0).trans rfl, (blk_cell BK188.out 1).trans rfl⟩ (fun hHeld => ?_)
            generalize w22.drew = w23 at HO191 BK188 HB hHeld ⊢
            refine pure_ (i := 0) (N := some 46) (v := ?_) (a' := ?_) #[true, false, false, false, false] rfl rfl (by kernel_rfl) (fun _ _ _ h => h) (Or.inl ⟨by rfl, ?_⟩) ?_ ?_
            rotate_left
            · intro w'
              go_simp
              with_reducible rfl
            rotate_left
            · simp only [Act.put, List.setIfInBounds_toArray, List.set_cons_zero, List.set_cons_succ, i64_w, i32_w]
              rfl
            refine pure_ (i := 2) (N := some 48) (v := ?_) (a' := ?_) #[true, false, true, false, false] rfl rfl (by kernel_rfl) (fun _ _ _ h => h) (Or.inl ⟨by rfl, ?_⟩) ?_ ?_
            rotate_left
            · intro w'
              go_simp
              with_reducible rfl
            rotate_left
            · simp only [Act.put, List.setIfInBounds_toArray, List.set_cons_zero, List.set_cons_succ, i64_w, i32_w]
              rfl
            refine take_ (i := 3) (N := some 49) (v := ?_) (a' := ?_) #[true, false, true, true, false] rfl rfl (by kernel_rfl) (fun _ _ _ h => h) (Or.inl ⟨by rfl, ?_⟩) hHeld ?_ ?_
            rotate_left
            · rintro w' ⟨s0, s1⟩
              go_simp
              with_reducible rfl
            rotate_left
            · simp only [Act.put, List.setIfInBounds_toArray, List.set_cons_zero, List.set_cons_succ, i64_w, i32_w]
              rfl
            refine one_ (i := 1) (N := some 47) #[true, true, true, true, false] rfl rfl (by kernel_rfl) (by decide) (fun K hK => ?_)
            refine goes_ Try.func10 (by kernel_rfl) rfl #[.slice Ao24 t189.length co24] (by rfl) rfl rfl (by (try simp only [List.map_toArray, List.map_cons, List.map_nil]); first | done | rfl | (simp only [List.length_drop, List.length_take]; rfl)) ?_
            with_reducible refine (piece_Total.calls k _ _ t189 t192 _ ?side1 ?side2 A16.out).mono ?_
            (case side1 => repeat (first | exact (Kd.R_reads' HO191.out).2.2 | (with_reducible refine Kd.C_alloc ?_ _) | (with_reducible refine Kd.C_drewN ?_ _) | (with_reducible refine Kd.C_drew ?_)))
            (case side2 => exact (Kd.R_reads' HO191.out).2.1)
            rintro e w25 ⟨rfl, hb⟩
            refine ⟨_, rfl, ?_⟩
            have n0_ := Aside0.mk (Kd.R_below (by (with_reducible repeat (first | apply Kd.R_alloc | apply Kd.R_drewN | apply Kd.R_drew)); exact HO191.out) hb)
            have n1_ := Aside0.mk (blk_below (g := gb188) (o := .cells #[.int .i64 (Int.tmod (wrap64 (a1)) t187), .int .i64 (wrap64 (1 + (Int.tmod (wrap64 (a2)) (wrap64 (t187 - (Int.tmod (wrap64 (a1)) t187))))))] 24 (0, 0)) (by (with_reducible repeat (first | refine blk_drewN ?_ _ | refine blk_drew ?_ | refine blk_alloc ?_ _)); exact BK188.out) hb)
            have n2_ := Aside0.mk (below_step (by repeat (first | (with_reducible first | exact HB.out | apply below_alloc | apply pw_below_drewN | apply below_drew1 | refine below_set ?_ GE188.out) | exact HB.out)) hb)
            clear HO191
            clear BK188
            clear HB
            have HO191 := n0_
            have BK188 := n1_
            have HB := n2_
            clear n0_ n1_ n2_
            (try clear hb)
            (try clear hb2)
            (try clear hk)
            (try clear hi)
            refine hK.out _ _ ⟨(blk_cell BK188.out 0).trans rfl, (blk_cell BK188.out 1).trans rfl⟩ (fun hHeld => ?_)
            clear hK K
            refine norm_ (a' := ?_) ?_ ?_
            rotate_left
            · show Act.put _ (some 47) _ = _
              simp only [Act.put, List.setIfInBounds_toArray, List.set_cons_zero, List.set_cons_succ, i64_w, i32_w]
              rfl
            refine pure_ (i := 4) (N := some 50) (v := ?_) (a' := ?_) #[true, true, true, true, true] rfl rfl (by kernel_rfl) (fun _ _ _ h => h) (Or.inl ⟨by rfl, ?_⟩) ?_ ?_
            rotate_left
            · intro w'
              go_simp
              with_reducible rfl
            rotate_left
            · simp only [Act.put, List.setIfInBounds_toArray, List.set_cons_zero, List.set_cons_succ, i64_w, i32_w]
              rfl
            refine done_ (by kernel_rfl) ?_
            try go_wp2
            go_loopg [16] k (fun kq v16 w' => ∃ (x16_1 : Int), v16 = .int .i64 x16_1 ∧ Aside0 (lockfastlaw14_PieceCuts.l0 kq l0 a3 a4 t185 t187 t189 x16_1 (Int.tmod (wrap64 (a1)) t187) (wrap64 (1 + (Int.tmod (wrap64 (a2)) (wrap64 (t187 - (Int.tmod (wrap64 (a1)) t187)))))) = some r) ∧ Aside0 (kq ≤ k) ∧ Aside0 (Kd.R k24 24 w' w.heap.size (fun k_ => k_ ≠ gb188) (.slice Ao24 t189.length co24) t189) ∧ Aside0 (w'.heap[gb188]? = some (.cells #[.int .i64 (Int.tmod (wrap64 (a1)) t187), .int .i64 (wrap64 (1 + (Int.tmod (wrap64 (a2)) (wrap64 (t187 - (Int.tmod (wrap64 (a1)) t187))))))] 24 (0, 0))) ∧ Aside0 (Below w.heap.size w w'))
            case atStart => exact ⟨(0), (by first | rfl | (simp; done) | (simp [*]; done)), H', ⟨Nat.le_refl _⟩, ⟨by (with_reducible repeat (first | apply Kd.R_alloc | apply Kd.R_drewN | apply Kd.R_drew)); exact Kd.R_mono HO191.out (fun _ hk => hk.2)⟩, ⟨by (with_reducible repeat (first | refine blk_drewN ?_ _ | refine blk_drew ?_ | refine blk_alloc ?_ _)); exact BK188.out⟩, ⟨by repeat (first | (with_reducible first | exact HB.out | apply below_alloc | apply pw_below_drewN | apply below_drew1 | refine below_set ?_ GE188.out) | exact HB.out)⟩⟩
            case round =>
              clear H'
              try clear c1
              try clear p2
              try clear c4
              try clear p6
              try clear c8
              try clear c9
              try clear c10
              try clear c10b0
              try clear c13
              try clear c13b0
              try clear c13b1
              try clear c14
              try clear c14b0
              try clear c14b1
              try clear c15
              try clear c17
              try clear c17b0
              try clear c17b1
              try clear hcz21_0
              try clear hcz21_1
              try clear hfz21_0
              try clear hfz21_1
              obtain ⟨x16_1, rfl, HA, HK1, HO_15, BK188, HB⟩ := hrel
              cases gk with
              | zero => exact absurd HA.out (by simp [lockfastlaw14_PieceCuts.l0])
              | succ k1 =>
                have H := HA.out
                clear HA
                simp only [lockfastlaw14_PieceCuts.l0] at H
                by_cases c26 : x16_1 < (wrap64 (1 + (Int.tmod (wrap64 (a2)) (wrap64 (t187 - (Int.tmod (wrap64 (a1)) t187))))))
                · rw [if_pos c26] at H
                  have c26b0 : decide (x16_1 < (wrap64 (1 + (Int.tmod (wrap64 (a2)) (wrap64 (t187 - (Int.tmod (wrap64 (a1)) t187))))))) = true := decide_eq_true c26
                  clear c26
                  replace H := Option.bind_eq_some_iff.mp H
                  obtain ⟨t193, A270, H⟩ := H
                  replace H : ((piece_At.f k1 l0 (wrap64 ((Int.tmod (wrap64 (a1)) t187) + x16_1))).bind fun t194 => (if t193 = t194 then (lockfastlaw14_PieceCuts.l0 k1 l0 a3 a4 t185 t187 t189 (wrap64 (x16_1 + 1)) (Int.tmod (wrap64 (a1)) t187) (wrap64 (1 + (Int.tmod (wrap64 (a2)) (wrap64 (t187 - (Int.tmod (wrap64 (a1)) t187))))))) else (some false))) = some r := H
                  have A27 := Aside0.mk A270
                  clear A270
                  replace H := Option.bind_eq_some_iff.mp H
                  obtain ⟨t194, A280, H⟩ := H
                  replace H : (if t193 = t194 then (lockfastlaw14_PieceCuts.l0 k1 l0 a3 a4 t185 t187 t189 (wrap64 (x16_1 + 1)) (Int.tmod (wrap64 (a1)) t187) (wrap64 (1 + (Int.tmod (wrap64 (a2)) (wrap64 (t187 - (Int.tmod (wrap64 (a1)) t187))))))) else (some false)) = some r := H
                  have A28 := Aside0.mk A280
                  clear A280
                  by_cases c29 : t193 = t194
                  · rw [if_pos c29] at H
                    have c29b0 : (t193 == t194) = true := beq_iff_eq.mpr c29
                    have c29b1 : (t193 != t194) = false := bne_eq_false_iff_eq.mpr c29
                    clear c29
                    have H' := Aside0.mk H
                    clear H
                    have hcz30_0 : wr.cell? ⟨gb188, 0, none⟩ = some (.int .i64 (Int.tmod (wrap64 (a1)) t187)) := (blk_cell BK188.out 0).trans rfl
                    have hcz30_1 : wr.cell? ⟨gb188, 1, none⟩ = some (.int .i64 (wrap64 (1 + (Int.tmod (wrap64 (a2)) (wrap64 (t187 - (Int.tmod (wrap64 (a1)) t187))))))) := (blk_cell BK188.out 1).trans rfl
                    have hfz30_0 := blk_frozen BK188.out 0
                    have hfz30_1 := blk_frozen BK188.out 1
                    try go_wp2
                    have n0_ := Aside0.mk (Kd.R_drew HO_15.out)
                    have n1_ := Aside0.mk (blk_drew BK188.out)
                    have n2_ := Aside0.mk (below_drew1 HB.out)
                    clear HO_15
                    clear BK188
                    clear HB
                    have HO_15 := n0_
                    have BK188 := n1_
                    have HB := n2_
                    clear n0_ n1_ n2_
                    refine start_ (n := 10) (S := fun w' => w'.cell? ⟨gb188, 0, none⟩ = some (.int .i64 (Int.tmod (wrap64 (a1)) t187)) ∧ w'.cell? ⟨gb188, 1, none⟩ = some (.int .i64 (wrap64 (1 + (Int.tmod (wrap64 (a2)) (wrap64 (t187 - (Int.tmod (wrap64 (a1)) t187)))))))) (ds := []) #[false, false, false, false, false, false, false, false, false, false] (by kernel_rfl) rfl rfl ⟨(blk_cell BK188.out 0).trans rfl, (blk_cell BK188.out 1).trans rfl⟩ (fun hHeld => ?_); refine with_tabW lockfastlaw14_PieceCuts.tab16 lockfastlaw14_PieceCuts.bits16 (fun HT_ HW_ => ?_)
                    generalize wr.drew = w31 at HO_15 BK188 HB hHeld ⊢
                    refine pure_ (i := 0) (N := some 57) (v := ?_) (a' := ?_) #[true, false, false, false, false, false, false, false, false, false] rfl rfl (any_of HT_.out (by kernel_rfl)) (fun _ _ _ h => h) (Or.inl ⟨by rfl, ?_⟩) ?_ ?_
                    rotate_left
                    · intro w'
                      go_simp
                      with_reducible rfl
                    rotate_left
                    · simp only [Act.put, List.setIfInBounds_toArray, List.set_cons_zero, List.set_cons_succ, i64_w, i32_w]
                      rfl
                    refine pure_ (i := 1) (N := some 58) (v := ?_) (a' := ?_) #[true, true, false, false, false, false, false, false, false, false] rfl rfl (any_of HT_.out (by kernel_rfl)) (fun _ _ _ h => h) (Or.inl ⟨by rfl, ?_⟩) ?_ ?_
                    rotate_left
                    · intro w'
                      go_simp
                      with_reducible rfl
                    rotate_left
                    · simp only [Act.put, List.setIfInBounds_toArray, List.set_cons_zero, List.set_cons_succ, i64_w, i32_w]
                      rfl
                    refine pure_ (i := 3) (N := some 60) (v := ?_) (a' := ?_) #[true, true, false, true, false, false, false, false, false, false] rfl rfl (any_of HT_.out (by kernel_rfl)) (fun _ _ _ h => h) (Or.inl ⟨by rfl, ?_⟩) ?_ ?_
                    rotate_left
                    · intro w'
                      go_simp
                      with_reducible rfl
                    rotate_left
                    · simp only [Act.put, List.setIfInBounds_toArray, List.set_cons_zero, List.set_cons_succ, i64_w, i32_w]
                      rfl
                    refine pure_ (i := 4) (N := some 61) (v := ?_) (a' := ?_) #[true, true, false, true, true, false, false, false, false, false] rfl rfl (any_of HT_.out (by kernel_rfl)) (fun _ _ _ h => h) (Or.inl ⟨by rfl, ?_⟩) ?_ ?_
                    rotate_left
                    · intro w'
                      go_simp
                      with_reducible rfl
                    rotate_left
                    · simp only [Act.put, List.setIfInBounds_toArray, List.set_cons_zero, List.set_cons_succ, i64_w, i32_w]
                      rfl
                    refine pure_ (i := 6) (N := some 63) (v := ?_) (a' := ?_) #[true, true, false, true, true, false, true, false, false, false] rfl rfl (any_of HT_.out (by kernel_rfl)) (fun _ _ _ h => h) (Or.inl ⟨by rfl, ?_⟩) ?_ ?_
                    rotate_left
                    · intro w'
                      go_simp
                      with_reducible rfl
                    rotate_left
                    · simp only [Act.put, List.setIfInBounds_toArray, List.set_cons_zero, List.set_cons_succ, i64_w, i32_w]
                      rfl
                    refine take_ (i := 5) (N := some 62) (v := ?_) (a' := ?_) #[true, true, false, true, true, true, true, false, false, false] rfl rfl (take_ofW HT_.out HW_.out (by kernel_rfl)) (fun _ _ _ h => h) (Or.inl ⟨by rfl, ?_⟩) hHeld ?_ ?_
                    rotate_left
                    · rintro w' ⟨s0, s1⟩
                      go_simp
                      with_reducible rfl
                    rotate_left
                    · simp only [Act.put, List.setIfInBounds_toArray, List.set_cons_zero, List.set_cons_succ, i64_w, i32_w]
                      rfl
                    refine pure_ (i := 7) (N := some 64) (v := ?_) (a' := ?_) #[true, true, false, true, true, true, true, true, false, false] rfl rfl (any_of HT_.out (by kernel_rfl)) (fun _ _ _ h => h) (Or.inl ⟨by rfl, ?_⟩) ?_ ?_
                    rotate_left
                    · intro w'
                      go_simp
                      with_reducible rfl
                    rotate_left
                    · simp only [Act.put, List.setIfInBounds_toArray, List.set_cons_zero, List.set_cons_succ, i64_w, i32_w]
                      rfl
                    refine one_ (i := 2) (N := some 59) #[true, true, true, true, true, true, true, true, false, false] rfl rfl (one_of HT_.out (by kernel_rfl)) (by decide) (fun K hK => ?_)
                    refine goes_ Try.func12 (by kernel_rfl) rfl #[.slice Ao24 t189.length co24, .int .i64 x16_1] (by rfl) rfl rfl (by (try simp only [List.map_toArray, List.map_cons, List.map_nil]); first | done | rfl | (simp only [List.length_drop, List.length_take]; rfl)) ?_
                    with_reducible refine (piece_At.calls k1 _ _ t189 x16_1 t193 _ ?side1 ?side2 A27.out).mono ?_
                    (case side1 => repeat (first | exact (Kd.R_reads' HO_15.out).2.2 | (with_reducible refine Kd.C_alloc ?_ _) | (with_reducible refine Kd.C_drewN ?_ _) | (with_reducible refine Kd.C_drew ?_)))
                    (case side2 => exact (Kd.R_reads' HO_15.out).2.1)
                    rintro e w32 ⟨rfl, hb⟩
                    refine ⟨_, rfl, ?_⟩
                    have n0_ := Aside0.mk (Kd.R_below (by (with_reducible repeat (first | apply Kd.R_alloc | apply Kd.R_drewN | apply Kd.R_drew)); exact HO_15.out) hb)
                    have n1_ := Aside0.mk (blk_below (g := gb188) (o := .cells #[.int .i64 (Int.tmod (wrap64 (a1)) t187), .int .i64 (wrap64 (1 + (Int.tmod (wrap64 (a2)) (wrap64 (t187 - (Int.tmod (wrap64 (a1)) t187))))))] 24 (0, 0)) (by (with_reducible repeat (first | refine blk_drewN ?_ _ | refine blk_drew ?_ | refine blk_alloc ?_ _)); exact BK188.out) hb)
                    have n2_ := Aside0.mk (below_step (by repeat (first | (with_reducible first | exact HB.out | apply below_alloc | apply pw_below_drewN | apply below_drew1 | refine below_set ?_ GE188.out) | exact HB.out)) hb)
                    clear HO_15
                    clear BK188
                    clear HB
                    have HO_15 := n0_
                    have BK188 := n1_
                    have HB := n2_
                    clear n0_ n1_ n2_
                    (try clear hb)
                    (try clear hb2)
                    (try clear hk)
                    (try clear hi)
                    refine hK.out _ _ ⟨(blk_cell BK188.out 0).trans rfl, (blk_cell BK188.out 1).trans rfl⟩ (fun hHeld => ?_)
                    clear hK K
                    refine norm_ (a' := ?_) ?_ ?_
                    rotate_left
                    · show Act.put _ (some 59) _ = _
                      simp only [Act.put, List.setIfInBounds_toArray, List.set_cons_zero, List.set_cons_succ, i64_w, i32_w]
                      rfl
                    refine one_ (i := 8) (N := some 65) #[true, true, true, true, true, true, true, true, true, false] rfl rfl (one_of HT_.out (by kernel_rfl)) (by decide) (fun K hK => ?_)
                    refine goes_ Try.func12 (by kernel_rfl) rfl #[.slice A0 l0.length c0, .int .i64 (wrap64 ((Int.tmod (wrap64 (a1)) t187) + x16_1))] (by rfl) rfl rfl (by (try simp only [List.map_toArray, List.map_cons, List.map_nil]); first | done | rfl | (simp only [List.length_drop, List.length_take]; rfl)) ?_
                    with_reducible refine (piece_At.calls k1 _ _ l0 (wrap64 ((Int.tmod (wrap64 (a1)) t187) + x16_1)) t194 _ ?side1 ?side2 A28.out).mono ?_
                    (case side1 => repeat (first | exact (Kd.C_below HR0.out HB.out) | (with_reducible refine Kd.C_alloc ?_ _) | (with_reducible refine Kd.C_drewN ?_ _) | (with_reducible refine Kd.C_drew ?_)))
                    (case side2 => exact HC0.out)
                    rintro e w33 ⟨rfl, hb⟩
                    refine ⟨_, rfl, ?_⟩
                    have n0_ := Aside0.mk (Kd.R_below (by (with_reducible repeat (first | apply Kd.R_alloc | apply Kd.R_drewN | apply Kd.R_drew)); exact HO_15.out) hb)
                    have n1_ := Aside0.mk (blk_below (g := gb188) (o := .cells #[.int .i64 (Int.tmod (wrap64 (a1)) t187), .int .i64 (wrap64 (1 + (Int.tmod (wrap64 (a2)) (wrap64 (t187 - (Int.tmod (wrap64 (a1)) t187))))))] 24 (0, 0)) (by (with_reducible repeat (first | refine blk_drewN ?_ _ | refine blk_drew ?_ | refine blk_alloc ?_ _)); exact BK188.out) hb)
                    have n2_ := Aside0.mk (below_step (by repeat (first | (with_reducible first | exact HB.out | apply below_alloc | apply pw_below_drewN | apply below_drew1 | refine below_set ?_ GE188.out) | exact HB.out)) hb)
                    clear HO_15
                    clear BK188
                    clear HB
                    have HO_15 := n0_
                    have BK188 := n1_
                    have HB := n2_
                    clear n0_ n1_ n2_
                    (try clear hb)
                    (try clear hb2)
                    (try clear hk)
                    (try clear hi)
                    refine hK.out _ _ ⟨(blk_cell BK188.out 0).trans rfl, (blk_cell BK188.out 1).trans rfl⟩ (fun hHeld => ?_)
                    clear hK K
                    refine norm_ (a' := ?_) ?_ ?_
                    rotate_left
                    · show Act.put _ (some 65) _ = _
                      simp only [Act.put, List.setIfInBounds_toArray, List.set_cons_zero, List.set_cons_succ, i64_w, i32_w]
                      rfl
                    refine pure_ (i := 9) (N := some 66) (v := ?_) (a' := ?_) #[true, true, true, true, true, true, true, true, true, true] rfl rfl (any_of HT_.out (by kernel_rfl)) (fun _ _ _ h => h) (Or.inl ⟨by rfl, ?_⟩) ?_ ?_
                    rotate_left
                    · intro w'
                      go_simp
                      with_reducible rfl
                    rotate_left
                    · simp only [Act.put, List.setIfInBounds_toArray, List.set_cons_zero, List.set_cons_succ, i64_w, i32_w]
                      rfl
                    refine done_ (done_of HT_.out (by kernel_rfl)) ?_
                    try go_wp2
                    go_roundg k1
                    case measure => have := HK1.out; omega
                    case rel => exact ⟨(wrap64 (x16_1 + 1)), (by first | rfl | (simp; done) | (simp [*]; done)), H', ⟨by have := HK1.out; omega⟩, ⟨by (with_reducible repeat (first | apply Kd.R_alloc | apply Kd.R_drewN | apply Kd.R_drew)); exact HO_15.out⟩, ⟨by (with_reducible repeat (first | refine blk_drewN ?_ _ | refine blk_drew ?_ | refine blk_alloc ?_ _)); exact BK188.out⟩, ⟨by repeat (first | (with_reducible first | exact HB.out | apply below_alloc | apply pw_below_drewN | apply below_drew1 | refine below_set ?_ GE188.out) | exact HB.out)⟩⟩
                  · rw [if_neg c29] at H
                    have c29b0 : (t193 == t194) = false := beq_eq_false_iff_ne.mpr c29
                    have c29b1 : (t193 != t194) = true := bne_iff_ne.mpr c29
                    obtain rfl := Option.some.inj H
                    have hcz34_0 : wr.cell? ⟨gb188, 0, none⟩ = some (.int .i64 (Int.tmod (wrap64 (a1)) t187)) := (blk_cell BK188.out 0).trans rfl
                    have hcz34_1 : wr.cell? ⟨gb188, 1, none⟩ = some (.int .i64 (wrap64 (1 + (Int.tmod (wrap64 (a2)) (wrap64 (t187 - (Int.tmod (wrap64 (a1)) t187))))))) := (blk_cell BK188.out 1).trans rfl
                    have hfz34_0 := blk_frozen BK188.out 0
                    have hfz34_1 := blk_frozen BK188.out 1
                    try go_wp2
                    have n0_ := Aside0.mk (Kd.R_drew HO_15.out)
                    have n1_ := Aside0.mk (blk_drew BK188.out)
                    have n2_ := Aside0.mk (below_drew1 HB.out)
                    clear HO_15
                    clear BK188
                    clear HB
                    have HO_15 := n0_
                    have BK188 := n1_
                    have HB := n2_
                    clear n0_ n1_ n2_
                    refine start_ (n := 10) (S := fun w' => w'.cell? ⟨gb188, 0, none⟩ = some (.int .i64 (Int.tmod (wrap64 (a1)) t187)) ∧ w'.cell? ⟨gb188, 1, none⟩ = some (.int .i64 (wrap64 (1 + (Int.tmod (wrap64 (a2)) (wrap64 (t187 - (Int.tmod (wrap64 (a1)) t187)))))))) (ds := []) #[false, false, false, false, false, false, false, false, false, false] (by kernel_rfl) rfl rfl ⟨(blk_cell BK188.out 0).trans rfl, (blk_cell BK188.out 1).trans rfl⟩ (fun hHeld => ?_); refine with_tabW lockfastlaw14_PieceCuts.tab16 lockfastlaw14_PieceCuts.bits16 (fun HT_ HW_ => ?_)
                    generalize wr.drew = w35 at HO_15 BK188 HB hHeld ⊢
                    refine pure_ (i := 0) (N := some 57) (v := ?_) (a' := ?_) #[true, false, false, false, false, false, false, false, false, false] rfl rfl (any_of HT_.out (by kernel_rfl)) (fun _ _ _ h => h) (Or.inl ⟨by rfl, ?_⟩) ?_ ?_
                    rotate_left
                    · intro w'
                      go_simp
                      with_reducible rfl
                    rotate_left
                    · simp only [Act.put, List.setIfInBounds_toArray, List.set_cons_zero, List.set_cons_succ, i64_w, i32_w]
                      rfl
                    refine pure_ (i := 1) (N := some 58) (v := ?_) (a' := ?_) #[true, true, false, false, false, false, false, false, false, false] rfl rfl (any_of HT_.out (by kernel_rfl)) (fun _ _ _ h => h) (Or.inl ⟨by rfl, ?_⟩) ?_ ?_
                    rotate_left
                    · intro w'
                      go_simp
                      with_reducible rfl
                    rotate_left
                    · simp only [Act.put, List.setIfInBounds_toArray, List.set_cons_zero, List.set_cons_succ, i64_w, i32_w]
                      rfl
                    refine pure_ (i := 3) (N := some 60) (v := ?_) (a' := ?_) #[true, true, false, true, false, false, false, false, false, false] rfl rfl (any_of HT_.out (by kernel_rfl)) (fun _ _ _ h => h) (Or.inl ⟨by rfl, ?_⟩) ?_ ?_
                    rotate_left
                    · intro w'
                      go_simp
                      with_reducible rfl
                    rotate_left
                    · simp only [Act.put, List.setIfInBounds_toArray, List.set_cons_zero, List.set_cons_succ, i64_w, i32_w]
                      rfl
                    refine pure_ (i := 4) (N := some 61) (v := ?_) (a' := ?_) #[true, true, false, true, true, false, false, false, false, false] rfl rfl (any_of HT_.out (by kernel_rfl)) (fun _ _ _ h => h) (Or.inl ⟨by rfl, ?_⟩) ?_ ?_
                    rotate_left
                    · intro w'
                      go_simp
                      with_reducible rfl
                    rotate_left
                    · simp only [Act.put, List.setIfInBounds_toArray, List.set_cons_zero, List.set_cons_succ, i64_w, i32_w]
                      rfl
                    refine pure_ (i := 6) (N := some 63) (v := ?_) (a' := ?_) #[true, true, false, true, true, false, true, false, false, false] rfl rfl (any_of HT_.out (by kernel_rfl)) (fun _ _ _ h => h) (Or.inl ⟨by rfl, ?_⟩) ?_ ?_
                    rotate_left
                    · intro w'
                      go_simp
                      with_reducible rfl
                    rotate_left
                    · simp only [Act.put, List.setIfInBounds_toArray, List.set_cons_zero, List.set_cons_succ, i64_w, i32_w]
                      rfl
                    refine take_ (i := 5) (N := some 62) (v := ?_) (a' := ?_) #[true, true, false, true, true, true, true, false, false, false] rfl rfl (take_ofW HT_.out HW_.out (by kernel_rfl)) (fun _ _ _ h => h) (Or.inl ⟨by rfl, ?_⟩) hHeld ?_ ?_
                    rotate_left
                    · rintro w' ⟨s0, s1⟩
                      go_simp
                      with_reducible rfl
                    rotate_left
                    · simp only [Act.put, List.setIfInBounds_toArray, List.set_cons_zero, List.set_cons_succ, i64_w, i32_w]
                      rfl
                    refine pure_ (i := 7) (N := some 64) (v := ?_) (a' := ?_) #[true, true, false, true, true, true, true, true, false, false] rfl rfl (any_of HT_.out (by kernel_rfl)) (fun _ _ _ h => h) (Or.inl ⟨by rfl, ?_⟩) ?_ ?_
                    rotate_left
                    · intro w'
                      go_simp
                      with_reducible rfl
                    rotate_left
                    · simp only [Act.put, List.setIfInBounds_toArray, List.set_cons_zero, List.set_cons_succ, i64_w, i32_w]
                      rfl
                    refine one_ (i := 2) (N := some 59) #[true, true, true, true, true, true, true, true, false, false] rfl rfl (one_of HT_.out (by kernel_rfl)) (by decide) (fun K hK => ?_)
                    refine goes_ Try.func12 (by kernel_rfl) rfl #[.slice Ao24 t189.length co24, .int .i64 x16_1] (by rfl) rfl rfl (by (try simp only [List.map_toArray, List.map_cons, List.map_nil]); first | done | rfl | (simp only [List.length_drop, List.length_take]; rfl)) ?_
                    with_reducible refine (piece_At.calls k1 _ _ t189 x16_1 t193 _ ?side1 ?side2 A27.out).mono ?_
                    (case side1 => repeat (first | exact (Kd.R_reads' HO_15.out).2.2 | (with_reducible refine Kd.C_alloc ?_ _) | (with_reducible refine Kd.C_drewN ?_ _) | (with_reducible refine Kd.C_drew ?_)))
                    (case side2 => exact (Kd.R_reads' HO_15.out).2.1)
                    rintro e w36 ⟨rfl, hb⟩
                    refine ⟨_, rfl, ?_⟩
                    have n0_ := Aside0.mk (Kd.R_below (by (with_reducible repeat (first | apply Kd.R_alloc | apply Kd.R_drewN | apply Kd.R_drew)); exact HO_15.out) hb)
                    have n1_ := Aside0.mk (blk_below (g := gb188) (o := .cells #[.int .i64 (Int.tmod (wrap64 (a1)) t187), .int .i64 (wrap64 (1 + (Int.tmod (wrap64 (a2)) (wrap64 (t187 - (Int.tmod (wrap64 (a1)) t187))))))] 24 (0, 0)) (by (with_reducible repeat (first | refine blk_drewN ?_ _ | refine blk_drew ?_ | refine blk_alloc ?_ _)); exact BK188.out) hb)
                    have n2_ := Aside0.mk (below_step (by repeat (first | (with_reducible first | exact HB.out | apply below_alloc | apply pw_below_drewN | apply below_drew1 | refine below_set ?_ GE188.out) | exact HB.out)) hb)
                    clear HO_15
                    clear BK188
                    clear HB
                    have HO_15 := n0_
                    have BK188 := n1_
                    have HB := n2_
                    clear n0_ n1_ n2_
                    (try clear hb)
                    (try clear hb2)
                    (try clear hk)
                    (try clear hi)
                    refine hK.out _ _ ⟨(blk_cell BK188.out 0).trans rfl, (blk_cell BK188.out 1).trans rfl⟩ (fun hHeld => ?_)
                    clear hK K
                    refine norm_ (a' := ?_) ?_ ?_
                    rotate_left
                    · show Act.put _ (some 59) _ = _
                      simp only [Act.put, List.setIfInBounds_toArray, List.set_cons_zero, List.set_cons_succ, i64_w, i32_w]
                      rfl
                    refine one_ (i := 8) (N := some 65) #[true, true, true, true, true, true, true, true, true, false] rfl rfl (one_of HT_.out (by kernel_rfl)) (by decide) (fun K hK => ?_)
                    refine goes_ Try.func12 (by kernel_rfl) rfl #[.slice A0 l0.length c0, .int .i64 (wrap64 ((Int.tmod (wrap64 (a1)) t187) + x16_1))] (by rfl) rfl rfl (by (try simp only [List.map_toArray, List.map_cons, List.map_nil]); first | done | rfl | (simp only [List.length_drop, List.length_take]; rfl)) ?_
                    with_reducible refine (piece_At.calls k1 _ _ l0 (wrap64 ((Int.tmod (wrap64 (a1)) t187) + x16_1)) t194 _ ?side1 ?side2 A28.out).mono ?_
                    (case side1 => repeat (first | exact (Kd.C_below HR0.out HB.out) | (with_reducible refine Kd.C_alloc ?_ _) | (with_reducible refine Kd.C_drewN ?_ _) | (with_reducible refine Kd.C_drew ?_)))
                    (case side2 => exact HC0.out)
                    rintro e w37 ⟨rfl, hb⟩
                    refine ⟨_, rfl, ?_⟩
                    have n0_ := Aside0.mk (Kd.R_below (by (with_reducible repeat (first | apply Kd.R_alloc | apply Kd.R_drewN | apply Kd.R_drew)); exact HO_15.out) hb)
                    have n1_ := Aside0.mk (blk_below (g := gb188) (o := .cells #[.int .i64 (Int.tmod (wrap64 (a1)) t187), .int .i64 (wrap64 (1 + (Int.tmod (wrap64 (a2)) (wrap64 (t187 - (Int.tmod (wrap64 (a1)) t187))))))] 24 (0, 0)) (by (with_reducible repeat (first | refine blk_drewN ?_ _ | refine blk_drew ?_ | refine blk_alloc ?_ _)); exact BK188.out) hb)
                    have n2_ := Aside0.mk (below_step (by repeat (first | (with_reducible first | exact HB.out | apply below_alloc | apply pw_below_drewN | apply below_drew1 | refine below_set ?_ GE188.out) | exact HB.out)) hb)
                    clear HO_15
                    clear BK188
                    clear HB
                    have HO_15 := n0_
                    have BK188 := n1_
                    have HB := n2_
                    clear n0_ n1_ n2_
                    (try clear hb)
                    (try clear hb2)
                    (try clear hk)
                    (try clear hi)
                    refine hK.out _ _ ⟨(blk_cell BK188.out 0).trans rfl, (blk_cell BK188.out 1).trans rfl⟩ (fun hHeld => ?_)
                    clear hK K
                    refine norm_ (a' := ?_) ?_ ?_
                    rotate_left
                    · show Act.put _ (some 65) _ = _
                      simp only [Act.put, List.setIfInBounds_toArray, List.set_cons_zero, List.set_cons_succ, i64_w, i32_w]
                      rfl
                    refine pure_ (i := 9) (N := some 66) (v := ?_) (a' := ?_) #[true, true, true, true, true, true, true, true, true, true] rfl rfl (any_of HT_.out (by kernel_rfl)) (fun _ _ _ h => h) (Or.inl ⟨by rfl, ?_⟩) ?_ ?_
                    rotate_left
                    · intro w'
                      go_simp
                      with_reducible rfl
                    rotate_left
                    · simp only [Act.put, List.setIfInBounds_toArray, List.set_cons_zero, List.set_cons_succ, i64_w, i32_w]
                      rfl
                    refine done_ (done_of HT_.out (by kernel_rfl)) ?_
                    try go_wp2
                    go_ret
                    exact ⟨by first | rfl | (simp [errW_none, errW_some] <;> rfl) | (simp [*, errW_none, errW_some] <;> rfl), by repeat (first | (with_reducible first | exact HB.out | apply below_alloc | apply pw_below_drewN | apply below_drew1 | refine below_set ?_ GE188.out) | exact HB.out)⟩
                · rw [if_neg c26] at H
                  have c26b0 : decide (x16_1 < (wrap64 (1 + (Int.tmod (wrap64 (a2)) (wrap64 (t187 - (Int.tmod (wrap64 (a1)) t187))))))) = false := decide_eq_false c26
                  clear c26
                  by_cases c38 : (wrap64 (1 + (Int.tmod (wrap64 (a2)) (wrap64 (t187 - (Int.tmod (wrap64 (a1)) t187)))))) = 0
                  · rw [if_pos c38] at H
                    exact absurd H (by simp)
                  · rw [if_neg c38] at H
                    have c38b0 : ((wrap64 (1 + (Int.tmod (wrap64 (a2)) (wrap64 (t187 - (Int.tmod (wrap64 (a1)) t187)))))) == 0) = false := beq_eq_false_iff_ne.mpr c38
                    have c38b1 : ((wrap64 (1 + (Int.tmod (wrap64 (a2)) (wrap64 (t187 - (Int.tmod (wrap64 (a1)) t187)))))) != 0) = true := bne_iff_ne.mpr c38
                    by_cases c39 : (wrap64 ((wrap64 (1 + (Int.tmod (wrap64 (a2)) (wrap64 (t187 - (Int.tmod (wrap64 (a1)) t187)))))) - (Int.tmod (wrap64 (a3)) (wrap64 (1 + (Int.tmod (wrap64 (a2)) (wrap64 (t187 - (Int.tmod (wrap64 (a1)) t187))))))))) = 0
                    · rw [if_pos c39] at H
                      exact absurd H (by simp)
                    · rw [if_neg c39] at H
                      have c39b0 : ((wrap64 ((wrap64 (1 + (Int.tmod (wrap64 (a2)) (wrap64 (t187 - (Int.tmod (wrap64 (a1)) t187)))))) - (Int.tmod (wrap64 (a3)) (wrap64 (1 + (Int.tmod (wrap64 (a2)) (wrap64 (t187 - (Int.tmod (wrap64 (a1)) t187))))))))) == 0) = false := beq_eq_false_iff_ne.mpr c39
                      have c39b1 : ((wrap64 ((wrap64 (1 + (Int.tmod (wrap64 (a2)) (wrap64 (t187 - (Int.tmod (wrap64 (a1)) t187)))))) - (Int.tmod (wrap64 (a3)) (wrap64 (1 + (Int.tmod (wrap64 (a2)) (wrap64 (t187 - (Int.tmod (wrap64 (a1)) t187))))))))) != 0) = true := bne_iff_ne.mpr c39
                      by_cases c40 : t185 = true
                      · subst c40
                        have H1 : ((piece_Cut.f k1 t189 (Int.tmod (wrap64 (a3)) (wrap64 (1 + (Int.tmod (wrap64 (a2)) (wrap64 (t187 - (Int.tmod (wrap64 (a1)) t187))))))) (wrap64 (1 + (Int.tmod (wrap64 (a4)) (wrap64 ((wrap64 (1 + (Int.tmod (wrap64 (a2)) (wrap64 (t187 - (Int.tmod (wrap64 (a1)) t187)))))) - (Int.tmod (wrap64 (a3)) (wrap64 (1 + (Int.tmod (wrap64 (a2)) (wrap64 (t187 - (Int.tmod (wrap64 (a1)) t187))))))))))))).bind fun t196 => ((piece_Cut.f k1 l0 (wrap64 ((Int.tmod (wrap64 (a1)) t187) + (Int.tmod (wrap64 (a3)) (wrap64 (1 + (Int.tmod (wrap64 (a2)) (wrap64 (t187 - (Int.tmod (wrap64 (a1)) t187))))))))) (wrap64 (1 + (Int.tmod (wrap64 (a4)) (wrap64 ((wrap64 (1 + (Int.tmod (wrap64 (a2)) (wrap64 (t187 - (Int.tmod (wrap64 (a1)) t187)))))) - (Int.tmod (wrap64 (a3)) (wrap64 (1 + (Int.tmod (wrap64 (a2)) (wrap64 (t187 - (Int.tmod (wrap64 (a1)) t187))))))))))))).bind fun t199 => ((lockfastref04_Same.f k1 t196 t199).bind fun t202 => (if t202 = true then ((piece_Cut.f k1 l0 (Int.tmod (wrap64 (a1)) t187) (wrap64 ((wrap64 (t187 - (Int.tmod (wrap64 (a1)) t187))) + 1))).bind fun t203 => (some ((t203.length : Int) == 0))) else (some false))))) = some r := by rw [if_pos rfl] at H; exact H
                        clear H
                        have H := H1
                        clear H1
                        replace H := Option.bind_eq_some_iff.mp H
                        obtain ⟨t196, A410, H⟩ := H
                        replace H : ((piece_Cut.f k1 l0 (wrap64 ((Int.tmod (wrap64 (a1)) t187) + (Int.tmod (wrap64 (a3)) (wrap64 (1 + (Int.tmod (wrap64 (a2)) (wrap64 (t187 - (Int.tmod (wrap64 (a1)) t187))))))))) (wrap64 (1 + (Int.tmod (wrap64 (a4)) (wrap64 ((wrap64 (1 + (Int.tmod (wrap64 (a2)) (wrap64 (t187 - (Int.tmod (wrap64 (a1)) t187)))))) - (Int.tmod (wrap64 (a3)) (wrap64 (1 + (Int.tmod (wrap64 (a2)) (wrap64 (t187 - (Int.tmod (wrap64 (a1)) t187))))))))))))).bind fun t199 => ((lockfastref04_Same.f k1 t196 t199).bind fun t202 => (if t202 = true then ((piece_Cut.f k1 l0 (Int.tmod (wrap64 (a1)) t187) (wrap64 ((wrap64 (t187 - (Int.tmod (wrap64 (a1)) t187))) + 1))).bind fun t203 => (some ((t203.length : Int) == 0))) else (some false)))) = some r := H
                        have A41 := Aside0.mk A410
                        clear A410
                        replace H := Option.bind_eq_some_iff.mp H
                        obtain ⟨t199, A420, H⟩ := H
                        replace H : ((lockfastref04_Same.f k1 t196 t199).bind fun t202 => (if t202 = true then ((piece_Cut.f k1 l0 (Int.tmod (wrap64 (a1)) t187) (wrap64 ((wrap64 (t187 - (Int.tmod (wrap64 (a1)) t187))) + 1))).bind fun t203 => (some ((t203.length : Int) == 0))) else (some false))) = some r := H
                        have A42 := Aside0.mk A420
                        clear A420
                        replace H := Option.bind_eq_some_iff.mp H
                        obtain ⟨t202, A430, H⟩ := H
                        replace H : (if t202 = true then ((piece_Cut.f k1 l0 (Int.tmod (wrap64 (a1)) t187) (wrap64 ((wrap64 (t187 - (Int.tmod (wrap64 (a1)) t187))) + 1))).bind fun t203 => (some ((t203.length : Int) == 0))) else (some false)) = some r := H
                        have A43 := Aside0.mk A430
                        clear A430
                        by_cases c44 : t202 = true
                        · subst c44
                          have H1 : ((piece_Cut.f k1 l0 (Int.tmod (wrap64 (a1)) t187) (wrap64 ((wrap64 (t187 - (Int.tmod (wrap64 (a1)) t187))) + 1))).bind fun t203 => (some ((t203.length : Int) == 0))) = some r := by rw [if_pos rfl] at H; exact H
                          clear H
                          have H := H1
                          clear H1
                          replace H := Option.bind_eq_some_iff.mp H
                          obtain ⟨t203, A450, H⟩ := H
                          replace H : (some ((t203.length : Int) == 0)) = some r := H
                          have A45 := Aside0.mk A450
                          clear A450
                          obtain rfl := Option.some.inj H
                          have hcz46_0 : wr.cell? ⟨gb188, 0, none⟩ = some (.int .i64 (Int.tmod (wrap64 (a1)) t187)) := (blk_cell BK188.out 0).trans rfl
                          have hcz46_1 : wr.cell? ⟨gb188, 1, none⟩ = some (.int .i64 (wrap64 (1 + (Int.tmod (wrap64 (a2)) (wrap64 (t187 - (Int.tmod (wrap64 (a1)) t187))))))) := (blk_cell BK188.out 1).trans rfl
                          have hfz46_0 := blk_frozen BK188.out 0
                          have hfz46_1 := blk_frozen BK188.out 1
                          try go_wp2_with (first | ((with_reducible refine gate_dst (N := 17) rfl ?_); (try (refine gate_guard (by rfl) ?_; dsimp only)); refine box_event ?hg (N := 17) ?hd (cs := #[.int .i64 0, .int .i64 0]) (t := 24) ?hr ?_; (case hd => rfl); (case hg => rfl); (case hr => first | (go_simp; done) | (go_simp; rfl)); intro gb195 hg w47 hbox hb; have n0_ := Aside0.mk (Kd.R_below (Kd.R_elderB (by (with_reducible repeat (first | apply Kd.R_alloc | apply Kd.R_drewN | apply Kd.R_drew)); exact HO_15.out) gb195 (Nat.le_of_eq hg.symm)) hb); have n1_ := Aside0.mk (blk_below (g := gb188) (o := .cells #[.int .i64 (Int.tmod (wrap64 (a1)) t187), .int .i64 (wrap64 (1 + (Int.tmod (wrap64 (a2)) (wrap64 (t187 - (Int.tmod (wrap64 (a1)) t187))))))] 24 (0, 0)) (by (with_reducible repeat (first | refine blk_drewN ?_ _ | refine blk_drew ?_ | refine blk_alloc ?_ _)); exact BK188.out) hb); have n2_ := Aside0.mk (below_step (by repeat (first | (with_reducible first | exact HB.out | apply below_alloc | apply pw_below_drewN | apply below_drew1 | refine below_set ?_ GE188.out) | exact HB.out)) hb); have n3_ := Aside0.mk (hbox); have n4_ := Aside0.mk ((by rw [hg]; exact (below_size (by repeat (first | (with_reducible first | exact HB.out | apply below_alloc | apply pw_below_drewN | apply below_drew1 | refine below_set ?_ GE188.out) | exact HB.out))) : w.heap.size ≤ gb195)); have n5_ := Aside0.mk ((by rw [hg]; exact (below_size (by repeat (first | (with_reducible first | exact HB.out | apply below_alloc | apply pw_below_drewN | apply below_drew1 | refine below_set ?_ GE188.out) | exact HB.out))) : w.heap.size ≤ gb195)); have n6_ := Aside0.mk ((by rw [hg]; exact Nat.ne_of_lt (blk_lt (g := gb188) (o := .cells #[.int .i64 (Int.tmod (wrap64 (a1)) t187), .int .i64 (wrap64 (1 + (Int.tmod (wrap64 (a2)) (wrap64 (t187 - (Int.tmod (wrap64 (a1)) t187))))))] 24 (0, 0)) (by (with_reducible repeat (first | refine blk_drewN ?_ _ | refine blk_drew ?_ | refine blk_alloc ?_ _)); exact BK188.out)) : gb188 ≠ gb195)); have n7_ := Aside0.mk ((by rw [hg]; exact Nat.ne_of_gt (blk_lt (g := gb188) (o := .cells #[.int .i64 (Int.tmod (wrap64 (a1)) t187), .int .i64 (wrap64 (1 + (Int.tmod (wrap64 (a2)) (wrap64 (t187 - (Int.tmod (wrap64 (a1)) t187))))))] 24 (0, 0)) (by (with_reducible repeat (first | refine blk_drewN ?_ _ | refine blk_drew ?_ | refine blk_alloc ?_ _)); exact BK188.out)) : gb195 ≠ gb188)); clear HO_15; clear BK188; clear HB; have HO_15 := n0_; have BK188 := n1_; have HB := n2_; have BK195 := n3_; have GW195 := n4_; have GE195 := n5_; have NB188_195 := n6_; have NB195_188 := n7_; clear n0_ n1_ n2_ n3_ n4_ n5_ n6_ n7_; clear hb hbox hg; have hnb48 := NB195_188.out; have hnc48 := NB188_195.out; have hcz49_0 : w47.cell? ⟨gb195, 0, none⟩ = some (.int .i64 0) := (blk_cell BK195.out 0).trans rfl; have hcz49_1 : w47.cell? ⟨gb195, 1, none⟩ = some (.int .i64 0) := (blk_cell BK195.out 1).trans rfl; have hdbl_ := fun (x y z : Value) => dbl_ BK195.out x y z; have hfz49_0 := blk_frozen BK195.out 0; have hfz49_1 := blk_frozen BK195.out 1; have hcz50_0 : w47.cell? ⟨gb188, 0, none⟩ = some (.int .i64 (Int.tmod (wrap64 (a1)) t187)) := (blk_cell BK188.out 0).trans rfl; have hcz50_1 : w47.cell? ⟨gb188, 1, none⟩ = some (.int .i64 (wrap64 (1 + (Int.tmod (wrap64 (a2)) (wrap64 (t187 - (Int.tmod (wrap64 (a1)) t187))))))) := (blk_cell BK188.out 1).trans rfl; have hfz50_0 := blk_frozen BK188.out 0; have hfz50_1 := blk_frozen BK188.out 1))
                          have n0_ : Aside0 (Kd.R k24 24 (((w47.setCell ⟨gb195, 0, none⟩ (.int .i64 (Int.tmod (wrap64 (a3)) (wrap64 (1 + (Int.tmod (wrap64 (a2)) (wrap64 (t187 - (Int.tmod (wrap64 (a1)) t187))))))))).setCell ⟨gb195, 1, none⟩ (.int .i64 0)).setCell ⟨gb195, 1, none⟩ (.int .i64 (wrap64 (1 + (Int.tmod (wrap64 (a4)) (wrap64 ((wrap64 (1 + (Int.tmod (wrap64 (a2)) (wrap64 (t187 - (Int.tmod (wrap64 (a1)) t187)))))) - (Int.tmod (wrap64 (a3)) (wrap64 (1 + (Int.tmod (wrap64 (a2)) (wrap64 (t187 - (Int.tmod (wrap64 (a1)) t187)))))))))))))) w.heap.size (fun k_ => k_ ≠ gb188 ∧ k_ ≠ gb195) (.slice Ao24 t189.length co24) t189) := ⟨by (with_reducible repeat (first | apply Kd.R_alloc | apply Kd.R_drewN | apply Kd.R_drew)); exact Kd.R_mono (Kd.R_far (p := ⟨gb195, 1, none⟩) (Kd.R_far (p := ⟨gb195, 1, none⟩) (Kd.R_far (p := ⟨gb195, 0, none⟩) (Kd.R_mono HO_15.out (fun k_ hk => (⟨hk, hk.2⟩ : _ ∧ k_ ≠ gb195))) (fun _ hk => hk.2) (.int .i64 (Int.tmod (wrap64 (a3)) (wrap64 (1 + (Int.tmod (wrap64 (a2)) (wrap64 (t187 - (Int.tmod (wrap64 (a1)) t187))))))))) (fun _ hk => hk.2) (.int .i64 0)) (fun _ hk => hk.2) (.int .i64 (wrap64 (1 + (Int.tmod (wrap64 (a4)) (wrap64 ((wrap64 (1 + (Int.tmod (wrap64 (a2)) (wrap64 (t187 - (Int.tmod (wrap64 (a1)) t187)))))) - (Int.tmod (wrap64 (a3)) (wrap64 (1 + (Int.tmod (wrap64 (a2)) (wrap64 (t187 - (Int.tmod (wrap64 (a1)) t187)))))))))))))) (fun _ hk => ⟨hk.1.1, hk.1.2⟩)⟩
                          have n1_ : Aside0 ((((w47.setCell ⟨gb195, 0, none⟩ (.int .i64 (Int.tmod (wrap64 (a3)) (wrap64 (1 + (Int.tmod (wrap64 (a2)) (wrap64 (t187 - (Int.tmod (wrap64 (a1)) t187))))))))).setCell ⟨gb195, 1, none⟩ (.int .i64 0)).setCell ⟨gb195, 1, none⟩ (.int .i64 (wrap64 (1 + (Int.tmod (wrap64 (a4)) (wrap64 ((wrap64 (1 + (Int.tmod (wrap64 (a2)) (wrap64 (t187 - (Int.tmod (wrap64 (a1)) t187)))))) - (Int.tmod (wrap64 (a3)) (wrap64 (1 + (Int.tmod (wrap64 (a2)) (wrap64 (t187 - (Int.tmod (wrap64 (a1)) t187)))))))))))))).heap[gb188]? = some (.cells #[.int .i64 (Int.tmod (wrap64 (a1)) t187), .int .i64 (wrap64 (1 + (Int.tmod (wrap64 (a2)) (wrap64 (t187 - (Int.tmod (wrap64 (a1)) t187))))))] 24 (0, 0))) := ⟨by (with_reducible repeat (first | refine blk_drewN ?_ _ | refine blk_drew ?_ | refine blk_alloc ?_ _)); refine blk_far ?_ NB188_195.out _; (with_reducible repeat (first | refine blk_drewN ?_ _ | refine blk_drew ?_ | refine blk_alloc ?_ _)); refine blk_far ?_ NB188_195.out _; (with_reducible repeat (first | refine blk_drewN ?_ _ | refine blk_drew ?_ | refine blk_alloc ?_ _)); refine blk_far ?_ NB188_195.out _; (with_reducible repeat (first | refine blk_drewN ?_ _ | refine blk_drew ?_ | refine blk_alloc ?_ _)); exact BK188.out⟩
                          have n2_ : Aside0 ((((w47.setCell ⟨gb195, 0, none⟩ (.int .i64 (Int.tmod (wrap64 (a3)) (wrap64 (1 + (Int.tmod (wrap64 (a2)) (wrap64 (t187 - (Int.tmod (wrap64 (a1)) t187))))))))).setCell ⟨gb195, 1, none⟩ (.int .i64 0)).setCell ⟨gb195, 1, none⟩ (.int .i64 (wrap64 (1 + (Int.tmod (wrap64 (a4)) (wrap64 ((wrap64 (1 + (Int.tmod (wrap64 (a2)) (wrap64 (t187 - (Int.tmod (wrap64 (a1)) t187)))))) - (Int.tmod (wrap64 (a3)) (wrap64 (1 + (Int.tmod (wrap64 (a2)) (wrap64 (t187 - (Int.tmod (wrap64 (a1)) t187)))))))))))))).heap[gb195]? = some (.cells #[.int .i64 (Int.tmod (wrap64 (a3)) (wrap64 (1 + (Int.tmod (wrap64 (a2)) (wrap64 (t187 - (Int.tmod (wrap64 (a1)) t187))))))), .int .i64 (wrap64 (1 + (Int.tmod (wrap64 (a4)) (wrap64 ((wrap64 (1 + (Int.tmod (wrap64 (a2)) (wrap64 (t187 - (Int.tmod (wrap64 (a1)) t187)))))) - (Int.tmod (wrap64 (a3)) (wrap64 (1 + (Int.tmod (wrap64 (a2)) (wrap64 (t187 - (Int.tmod (wrap64 (a1)) t187))))))))))))] 24 (0, 0))) := ⟨by (with_reducible repeat (first | refine blk_drewN ?_ _ | refine blk_drew ?_ | refine blk_alloc ?_ _)); refine blk_put (cs := #[.int .i64 (Int.tmod (wrap64 (a3)) (wrap64 (1 + (Int.tmod (wrap64 (a2)) (wrap64 (t187 - (Int.tmod (wrap64 (a1)) t187))))))), .int .i64 0]) ?_ 1 _ rfl; (with_reducible repeat (first | refine blk_drewN ?_ _ | refine blk_drew ?_ | refine blk_alloc ?_ _)); refine blk_put (cs := #[.int .i64 (Int.tmod (wrap64 (a3)) (wrap64 (1 + (Int.tmod (wrap64 (a2)) (wrap64 (t187 - (Int.tmod (wrap64 (a1)) t187))))))), .int .i64 0]) ?_ 1 _ rfl; (with_reducible repeat (first | refine blk_drewN ?_ _ | refine blk_drew ?_ | refine blk_alloc ?_ _)); refine blk_put (cs := #[.int .i64 0, .int .i64 0]) ?_ 0 _ rfl; (with_reducible repeat (first | refine blk_drewN ?_ _ | refine blk_drew ?_ | refine blk_alloc ?_ _)); exact BK195.out⟩
                          have n3_ : Aside0 (Below w.heap.size w (((w47.setCell ⟨gb195, 0, none⟩ (.int .i64 (Int.tmod (wrap64 (a3)) (wrap64 (1 + (Int.tmod (wrap64 (a2)) (wrap64 (t187 - (Int.tmod (wrap64 (a1)) t187))))))))).setCell ⟨gb195, 1, none⟩ (.int .i64 0)).setCell ⟨gb195, 1, none⟩ (.int .i64 (wrap64 (1 + (Int.tmod (wrap64 (a4)) (wrap64 ((wrap64 (1 + (Int.tmod (wrap64 (a2)) (wrap64 (t187 - (Int.tmod (wrap64 (a1)) t187)))))) - (Int.tmod (wrap64 (a3)) (wrap64 (1 + (Int.tmod (wrap64 (a2)) (wrap64 (t187 - (Int.tmod (wrap64 (a1)) t187))))))))))))))) := ⟨by repeat (first | (with_reducible first | exact HB.out | apply below_alloc | apply pw_below_drewN | apply below_drew1 | refine below_set ?_ GE188.out | refine below_set ?_ GE195.out) | exact HB.out)⟩
                          (try clear HO_15)
                          (try clear BK188)
                          (try clear BK195)
                          (try clear HB)
                          generalize (((w47.setCell ⟨gb195, 0, none⟩ (.int .i64 (Int.tmod (wrap64 (a3)) (wrap64 (1 + (Int.tmod (wrap64 (a2)) (wrap64 (t187 - (Int.tmod (wrap64 (a1)) t187))))))))).setCell ⟨gb195, 1, none⟩ (.int .i64 0)).setCell ⟨gb195, 1, none⟩ (.int .i64 (wrap64 (1 + (Int.tmod (wrap64 (a4)) (wrap64 ((wrap64 (1 + (Int.tmod (wrap64 (a2)) (wrap64 (t187 - (Int.tmod (wrap64 (a1)) t187)))))) - (Int.tmod (wrap64 (a3)) (wrap64 (1 + (Int.tmod (wrap64 (a2)) (wrap64 (t187 - (Int.tmod (wrap64 (a1)) t187)))))))))))))) = w51 at n0_ n1_ n2_ n3_ ⊢
                          have HO_15 := n0_
                          have BK188 := n1_
                          have BK195 := n2_
                          have HB := n3_
                          clear n0_ n1_ n2_ n3_
                          have n0_ := Aside0.mk (Kd.R_drew HO_15.out)
                          have n1_ := Aside0.mk (blk_drew BK188.out)
                          have n2_ := Aside0.mk (blk_drew BK195.out)
                          have n3_ := Aside0.mk (below_drew1 HB.out)
                          clear HO_15
                          clear BK188
                          clear BK195
                          clear HB
                          have HO_15 := n0_
                          have BK188 := n1_
                          have BK195 := n2_
                          have HB := n3_
                          clear n0_ n1_ n2_ n3_
                          refine start_ (n := 32) (S := fun w' => w'.cell? ⟨gb195, 0, none⟩ = some (.int .i64 (Int.tmod (wrap64 (a3)) (wrap64 (1 + (Int.tmod (wrap64 (a2)) (wrap64 (t187 - (Int.tmod (wrap64 (a1)) t187)))))))) ∧ w'.cell? ⟨gb195, 1, none⟩ = some (.int .i64 (wrap64 (1 + (Int.tmod (wrap64 (a4)) (wrap64 ((wrap64 (1 + (Int.tmod (wrap64 (a2)) (wrap64 (t187 - (Int.tmod (wrap64 (a1)) t187)))))) - (Int.tmod (wrap64 (a3)) (wrap64 (1 + (Int.tmod (wrap64 (a2)) (wrap64 (t187 - (Int.tmod (wrap64 (a1)) t187))))))))))))) ∧ w'.cell? ⟨gb188, 0, none⟩ = some (.int .i64 (Int.tmod (wrap64 (a1)) t187)) ∧ w'.cell? ⟨gb188, 1, none⟩ = some (.int .i64 (wrap64 (1 + (Int.tmod (wrap64 (a2)) (wrap64 (t187 - (Int.tmod (wrap64 (a1)) t187)))))))) (ds := []) #[false, false, false, false, false, false, false, false, false, false, false, false, false, false, false, false, false, false, false, false, false, false, false, false, false, false, false, false, false, false, false, false] (by kernel_rfl) rfl rfl ⟨(blk_cell BK195.out 0).trans rfl, (blk_cell BK195.out 1).trans rfl, (blk_cell BK188.out 0).trans rfl, (blk_cell BK188.out 1).trans rfl⟩ (fun hHeld => ?_); refine with_tabW lockfastlaw14_PieceCuts.tab20 lockfastlaw14_PieceCuts.bits20 (fun HT_ HW_ => ?_)
                          generalize w51.drew = w52 at HO_15 BK188 BK195 HB hHeld ⊢
                          refine pure_ (i := 0) (N := some 83) (v := ?_) (a' := ?_) #[true, false, false, false, false, false, false, false, false, false, false, false, false, false, false, false, false, false, false, false, false, false, false, false, false, false, false, false, false, false, false, false] rfl rfl (any_of HT_.out (by kernel_rfl)) (fun _ _ _ h => h) (Or.inl ⟨by rfl, ?_⟩) ?_ ?_
                          rotate_left
                          · intro w'
                            go_simp
                            with_reducible rfl
                          rotate_left
                          · simp only [Act.put, List.setIfInBounds_toArray, List.set_cons_zero, List.set_cons_succ, i64_w, i32_w]
                            rfl
                          refine pure_ (i := 1) (N := some 84) (v := ?_) (a' := ?_) #[true, true, false, false, false, false, false, false, false, false, false, false, false, false, false, false, false, false, false, false, false, false, false, false, false, false, false, false, false, false, false, false] rfl rfl (any_of HT_.out (by kernel_rfl)) (fun _ _ _ h => h) (Or.inl ⟨by rfl, ?_⟩) ?_ ?_
                          rotate_left
                          · intro w'
                            go_simp
                            with_reducible rfl
                          rotate_left
                          · simp only [Act.put, List.setIfInBounds_toArray, List.set_cons_zero, List.set_cons_succ, i64_w, i32_w]
                            rfl
                          refine pure_ (i := 2) (N := some 85) (v := ?_) (a' := ?_) #[true, true, true, false, false, false, false, false, false, false, false, false, false, false, false, false, false, false, false, false, false, false, false, false, false, false, false, false, false, false, false, false] rfl rfl (any_of HT_.out (by kernel_rfl)) (fun _ _ _ h => h) (Or.inl ⟨by rfl, ?_⟩) ?_ ?_
                          rotate_left
                          · intro w'
                            go_simp
                            with_reducible rfl
                          rotate_left
                          · simp only [Act.put, List.setIfInBounds_toArray, List.set_cons_zero, List.set_cons_succ, i64_w, i32_w]
                            rfl
                          refine pure_ (i := 5) (N := some 88) (v := ?_) (a' := ?_) #[true, true, true, false, false, true, false, false, false, false, false, false, false, false, false, false, false, false, false, false, false, false, false, false, false, false, false, false, false, false, false, false] rfl rfl (any_of HT_.out (by kernel_rfl)) (fun _ _ _ h => h) (Or.inl ⟨by rfl, ?_⟩) ?_ ?_
                          rotate_left
                          · intro w'
                            go_simp
                            with_reducible rfl
                          rotate_left
                          · simp only [Act.put, List.setIfInBounds_toArray, List.set_cons_zero, List.set_cons_succ, i64_w, i32_w]
                            rfl
                          refine pure_ (i := 6) (N := some 89) (v := ?_) (a' := ?_) #[true, true, true, false, false, true, true, false, false, false, false, false, false, false, false, false, false, false, false, false, false, false, false, false, false, false, false, false, false, false, false, false] rfl rfl (any_of HT_.out (by kernel_rfl)) (fun _ _ _ h => h) (Or.inl ⟨by rfl, ?_⟩) ?_ ?_
                          rotate_left
                          · intro w'
                            go_simp
                            with_reducible rfl
                          rotate_left
                          · simp only [Act.put, List.setIfInBounds_toArray, List.set_cons_zero, List.set_cons_succ, i64_w, i32_w]
                            rfl
                          refine pure_ (i := 8) (N := some 91) (v := ?_) (a' := ?_) #[true, true, true, false, false, true, true, false, true, false, false, false, false, false, false, false, false, false, false, false, false, false, false, false, false, false, false, false, false, false, false, false] rfl rfl (any_of HT_.out (by kernel_rfl)) (fun _ _ _ h => h) (Or.inl ⟨by rfl, ?_⟩) ?_ ?_
                          rotate_left
                          · intro w'
                            go_simp
                            with_reducible rfl
                          rotate_left
                          · simp only [Act.put, List.setIfInBounds_toArray, List.set_cons_zero, List.set_cons_succ, i64_w, i32_w]
                            rfl
                          refine pure_ (i := 11) (N := some 94) (v := ?_) (a' := ?_) #[true, true, true, false, false, true, true, false, true, false, false, true, false, false, false, false, false, false, false, false, false, false, false, false, false, false, false, false, false, false, false, false] rfl rfl (any_of HT_.out (by kernel_rfl)) (fun _ _ _ h => h) (Or.inl ⟨by rfl, ?_⟩) ?_ ?_
                          rotate_left
                          · intro w'
                            go_simp
                            with_reducible rfl
                          rotate_left
                          · simp only [Act.put, List.setIfInBounds_toArray, List.set_cons_zero, List.set_cons_succ, i64_w, i32_w]
                            rfl
                          refine take_ (i := 3) (N := some 86) (v := ?_) (a' := ?_) #[true, true, true, true, false, true, true, false, true, false, false, true, false, false, false, false, false, false, false, false, false, false, false, false, false, false, false, false, false, false, false, false] rfl rfl (take_ofW HT_.out HW_.out (by kernel_rfl)) (fun _ _ _ h => h) (Or.inl ⟨by rfl, ?_⟩) hHeld ?_ ?_
                          rotate_left
                          · rintro w' ⟨s0, s1, s2, s3⟩
                            go_simp
                            with_reducible rfl
                          rotate_left
                          · simp only [Act.put, List.setIfInBounds_toArray, List.set_cons_zero, List.set_cons_succ, i64_w, i32_w]
                            rfl
                          refine take_ (i := 7) (N := some 90) (v := ?_) (a' := ?_) #[true, true, true, true, false, true, true, true, true, false, false, true, false, false, false, false, false, false, false, false, false, false, false, false, false, false, false, false, false, false, false, false] rfl rfl (take_ofW HT_.out HW_.out (by kernel_rfl)) (fun _ _ _ h => h) (Or.inl ⟨by rfl, ?_⟩) hHeld ?_ ?_
                          rotate_left
                          · rintro w' ⟨s0, s1, s2, s3⟩
                            go_simp
                            with_reducible rfl
                          rotate_left
                          · simp only [Act.put, List.setIfInBounds_toArray, List.set_cons_zero, List.set_cons_succ, i64_w, i32_w]
                            rfl
                          refine take_ (i := 9) (N := some 92) (v := ?_) (a' := ?_) #[true, true, true, true, false, true, true, true, true, true, false, true, false, false, false, false, false, false, false, false, false, false, false, false, false, false, false, false, false, false, false, false] rfl rfl (take_ofW HT_.out HW_.out (by kernel_rfl)) (fun _ _ _ h => h) (Or.inl ⟨by rfl, ?_⟩) hHeld ?_ ?_
                          rotate_left
                          · rintro w' ⟨s0, s1, s2, s3⟩
                            go_simp
                            with_reducible rfl
                          rotate_left
                          · simp only [Act.put, List.setIfInBounds_toArray, List.set_cons_zero, List.set_cons_succ, i64_w, i32_w]
                            rfl
                          refine pure_ (i := 10) (N := some 93) (v := ?_) (a' := ?_) #[true, true, true, true, false, true, true, true, true, true, true, true, false, false, false, false, false, false, false, false, false, false, false, false, false, false, false, false, false, false, false, false] rfl rfl (any_of HT_.out (by kernel_rfl)) (fun _ _ _ h => h) (Or.inl ⟨by rfl, ?_⟩) ?_ ?_
                          rotate_left
                          · intro w'
                            go_simp
                            with_reducible rfl
                          rotate_left
                          · simp only [Act.put, List.setIfInBounds_toArray, List.set_cons_zero, List.set_cons_succ, i64_w, i32_w]
                            rfl
                          refine take_ (i := 12) (N := some 95) (v := ?_) (a' := ?_) #[true, true, true, true, false, true, true, true, true, true, true, true, true, false, false, false, false, false, false, false, false, false, false, false, false, false, false, false, false, false, false, false] rfl rfl (take_ofW HT_.out HW_.out (by kernel_rfl)) (fun _ _ _ h => h) (Or.inl ⟨by rfl, ?_⟩) hHeld ?_ ?_
                          rotate_left
                          · rintro w' ⟨s0, s1, s2, s3⟩
                            go_simp
                            with_reducible rfl
                          rotate_left
                          · simp only [Act.put, List.setIfInBounds_toArray, List.set_cons_zero, List.set_cons_succ, i64_w, i32_w]
                            rfl
                          refine pure_ (i := 13) (N := some 96) (v := ?_) (a' := ?_) #[true, true, true, true, false, true, true, true, true, true, true, true, true, true, false, false, false, false, false, false, false, false, false, false, false, false, false, false, false, false, false, false] rfl rfl (any_of HT_.out (by kernel_rfl)) (fun _ _ _ h => h) (Or.inl ⟨by rfl, ?_⟩) ?_ ?_
                          rotate_left
                          · intro w'
                            go_simp
                            with_reducible rfl
                          rotate_left
                          · simp only [Act.put, List.setIfInBounds_toArray, List.set_cons_zero, List.set_cons_succ, i64_w, i32_w]
                            rfl
                          refine one_ (i := 4) (N := some 87) #[true, true, true, true, true, true, true, true, true, true, true, true, true, true, false, false, false, false, false, false, false, false, false, false, false, false, false, false, false, false, false, false] rfl rfl (one_of HT_.out (by kernel_rfl)) (by decide) (fun K hK => ?_)
                          refine goes_ Try.func15 (by kernel_rfl) rfl #[.slice Ao24 t189.length co24, .agg #[.int .i64 (Int.tmod (wrap64 (a3)) (wrap64 (1 + (Int.tmod (wrap64 (a2)) (wrap64 (t187 - (Int.tmod (wrap64 (a1)) t187))))))), .int .i64 (wrap64 (1 + (Int.tmod (wrap64 (a4)) (wrap64 ((wrap64 (1 + (Int.tmod (wrap64 (a2)) (wrap64 (t187 - (Int.tmod (wrap64 (a1)) t187)))))) - (Int.tmod (wrap64 (a3)) (wrap64 (1 + (Int.tmod (wrap64 (a2)) (wrap64 (t187 - (Int.tmod (wrap64 (a1)) t187))))))))))))]] (by rfl) rfl rfl (by (try simp only [List.map_toArray, List.map_cons, List.map_nil]); first | done | rfl | (simp only [List.length_drop, List.length_take]; rfl)) ?_
                          with_reducible refine (piece_Cut.calls k1 _ _ t189 (Int.tmod (wrap64 (a3)) (wrap64 (1 + (Int.tmod (wrap64 (a2)) (wrap64 (t187 - (Int.tmod (wrap64 (a1)) t187))))))) (wrap64 (1 + (Int.tmod (wrap64 (a4)) (wrap64 ((wrap64 (1 + (Int.tmod (wrap64 (a2)) (wrap64 (t187 - (Int.tmod (wrap64 (a1)) t187)))))) - (Int.tmod (wrap64 (a3)) (wrap64 (1 + (Int.tmod (wrap64 (a2)) (wrap64 (t187 - (Int.tmod (wrap64 (a1)) t187)))))))))))) t196 _ ?side1 ?side2 A41.out).mono ?_
                          (case side1 => repeat (first | exact (Kd.R_reads' HO_15.out).2.2 | (with_reducible refine Kd.C_alloc ?_ _) | (with_reducible refine Kd.C_drewN ?_ _) | (with_reducible refine Kd.C_drew ?_)))
                          (case side2 => exact (Kd.R_reads' HO_15.out).2.1)
                          rintro e w53 ⟨v197, rfl, ho0, hb⟩
                          refine ⟨_, rfl, ?_⟩
                          have n0_ := Aside0.mk (Kd.R_elder' (by (with_reducible repeat (first | apply Kd.R_alloc | apply Kd.R_drewN | apply Kd.R_drew)); exact HO_15.out) (Kd.R_base ho0) hb)
                          have n1_ := Aside0.mk (Kd.R_lower (Kd.R_newB (Kd.R_newB (Kd.R_new' ho0 (Kd.R_lt (by (with_reducible repeat (first | apply Kd.R_alloc | apply Kd.R_drewN | apply Kd.R_drew)); exact HO_15.out))) (g := gb188) (o := .cells #[.int .i64 (Int.tmod (wrap64 (a1)) t187), .int .i64 (wrap64 (1 + (Int.tmod (wrap64 (a2)) (wrap64 (t187 - (Int.tmod (wrap64 (a1)) t187))))))] 24 (0, 0)) (by (with_reducible repeat (first | refine blk_drewN ?_ _ | refine blk_drew ?_ | refine blk_alloc ?_ _)); exact BK188.out)) (g := gb195) (o := .cells #[.int .i64 (Int.tmod (wrap64 (a3)) (wrap64 (1 + (Int.tmod (wrap64 (a2)) (wrap64 (t187 - (Int.tmod (wrap64 (a1)) t187))))))), .int .i64 (wrap64 (1 + (Int.tmod (wrap64 (a4)) (wrap64 ((wrap64 (1 + (Int.tmod (wrap64 (a2)) (wrap64 (t187 - (Int.tmod (wrap64 (a1)) t187)))))) - (Int.tmod (wrap64 (a3)) (wrap64 (1 + (Int.tmod (wrap64 (a2)) (wrap64 (t187 - (Int.tmod (wrap64 (a1)) t187))))))))))))] 24 (0, 0)) (by (with_reducible repeat (first | refine blk_drewN ?_ _ | refine blk_drew ?_ | refine blk_alloc ?_ _)); exact BK195.out)) (below_size (by repeat (first | (with_reducible first | exact HB.out | apply below_alloc | apply pw_below_drewN | apply below_drew1 | refine below_set ?_ GE188.out | refine below_set ?_ GE195.out) | exact HB.out))))
                          have n2_ := Aside0.mk (blk_below (g := gb188) (o := .cells #[.int .i64 (Int.tmod (wrap64 (a1)) t187), .int .i64 (wrap64 (1 + (Int.tmod (wrap64 (a2)) (wrap64 (t187 - (Int.tmod (wrap64 (a1)) t187))))))] 24 (0, 0)) (by (with_reducible repeat (first | refine blk_drewN ?_ _ | refine blk_drew ?_ | refine blk_alloc ?_ _)); exact BK188.out) hb)
                          have n3_ := Aside0.mk (blk_below (g := gb195) (o := .cells #[.int .i64 (Int.tmod (wrap64 (a3)) (wrap64 (1 + (Int.tmod (wrap64 (a2)) (wrap64 (t187 - (Int.tmod (wrap64 (a1)) t187))))))), .int .i64 (wrap64 (1 + (Int.tmod (wrap64 (a4)) (wrap64 ((wrap64 (1 + (Int.tmod (wrap64 (a2)) (wrap64 (t187 - (Int.tmod (wrap64 (a1)) t187)))))) - (Int.tmod (wrap64 (a3)) (wrap64 (1 + (Int.tmod (wrap64 (a2)) (wrap64 (t187 - (Int.tmod (wrap64 (a1)) t187))))))))))))] 24 (0, 0)) (by (with_reducible repeat (first | refine blk_drewN ?_ _ | refine blk_drew ?_ | refine blk_alloc ?_ _)); exact BK195.out) hb)
                          have n4_ := Aside0.mk (below_step (by repeat (first | (with_reducible first | exact HB.out | apply below_alloc | apply pw_below_drewN | apply below_drew1 | refine below_set ?_ GE188.out | refine below_set ?_ GE195.out) | exact HB.out)) hb)
                          clear HO_15
                          clear BK188
                          clear BK195
                          clear HB
                          have HO_15 := n0_
                          have HO198 := n1_
                          have BK188 := n2_
                          have BK195 := n3_
                          have HB := n4_
                          clear n0_ n1_ n2_ n3_ n4_
                          (try clear hb)
                          (try clear hb2)
                          (try clear hk)
                          (try clear hi)
                          (try clear ho0)
                          refine hK.out _ _ ⟨(blk_cell BK195.out 0).trans rfl, (blk_cell BK195.out 1).trans rfl, (blk_cell BK188.out 0).trans rfl, (blk_cell BK188.out 1).trans rfl⟩ (fun hHeld => ?_)
                          clear hK K
                          refine norm_ (a' := ?_) ?_ ?_
                          rotate_left
                          · show Act.put _ (some 87) _ = _
                            simp only [Act.put, List.setIfInBounds_toArray, List.set_cons_zero, List.set_cons_succ, i64_w, i32_w]
                            rfl
                          refine one_ (i := 14) (N := some 97) #[true, true, true, true, true, true, true, true, true, true, true, true, true, true, true, false, false, false, false, false, false, false, false, false, false, false, false, false, false, false, false, false] rfl rfl (one_of HT_.out (by kernel_rfl)) (by decide) (fun K hK => ?_)
                          refine goes_ Try.func15 (by kernel_rfl) rfl #[.slice A0 l0.length c0, .agg #[.int .i64 (wrap64 ((Int.tmod (wrap64 (a1)) t187) + (Int.tmod (wrap64 (a3)) (wrap64 (1 + (Int.tmod (wrap64 (a2)) (wrap64 (t187 - (Int.tmod (wrap64 (a1)) t187))))))))), .int .i64 (wrap64 (1 + (Int.tmod (wrap64 (a4)) (wrap64 ((wrap64 (1 + (Int.tmod (wrap64 (a2)) (wrap64 (t187 - (Int.tmod (wrap64 (a1)) t187)))))) - (Int.tmod (wrap64 (a3)) (wrap64 (1 + (Int.tmod (wrap64 (a2)) (wrap64 (t187 - (Int.tmod (wrap64 (a1)) t187))))))))))))]] (by rfl) rfl rfl (by (try simp only [List.map_toArray, List.map_cons, List.map_nil]); first | done | rfl | (simp only [List.length_drop, List.length_take]; rfl)) ?_
                          with_reducible refine (piece_Cut.calls k1 _ _ l0 (wrap64 ((Int.tmod (wrap64 (a1)) t187) + (Int.tmod (wrap64 (a3)) (wrap64 (1 + (Int.tmod (wrap64 (a2)) (wrap64 (t187 - (Int.tmod (wrap64 (a1)) t187))))))))) (wrap64 (1 + (Int.tmod (wrap64 (a4)) (wrap64 ((wrap64 (1 + (Int.tmod (wrap64 (a2)) (wrap64 (t187 - (Int.tmod (wrap64 (a1)) t187)))))) - (Int.tmod (wrap64 (a3)) (wrap64 (1 + (Int.tmod (wrap64 (a2)) (wrap64 (t187 - (Int.tmod (wrap64 (a1)) t187)))))))))))) t199 _ ?side1 ?side2 A42.out).mono ?_
                          (case side1 => repeat (first | exact (Kd.C_below HR0.out HB.out) | (with_reducible refine Kd.C_alloc ?_ _) | (with_reducible refine Kd.C_drewN ?_ _) | (with_reducible refine Kd.C_drew ?_)))
                          (case side2 => exact HC0.out)
                          rintro e w54 ⟨v200, rfl, ho0, hb⟩
                          refine ⟨_, rfl, ?_⟩
                          have n0_ := Aside0.mk (Kd.R_elder' (by (with_reducible repeat (first | apply Kd.R_alloc | apply Kd.R_drewN | apply Kd.R_drew)); exact HO_15.out) (Kd.R_base ho0) hb)
                          have n1_ := Aside0.mk (Kd.R_elder' (by (with_reducible repeat (first | apply Kd.R_alloc | apply Kd.R_drewN | apply Kd.R_drew)); exact HO198.out) (Kd.R_base ho0) hb)
                          have n2_ := Aside0.mk (Kd.R_lower (Kd.R_newB (Kd.R_newB (Kd.R_new' (Kd.R_new' ho0 (Kd.R_lt (by (with_reducible repeat (first | apply Kd.R_alloc | apply Kd.R_drewN | apply Kd.R_drew)); exact HO_15.out))) (Kd.R_lt (by (with_reducible repeat (first | apply Kd.R_alloc | apply Kd.R_drewN | apply Kd.R_drew)); exact HO198.out))) (g := gb188) (o := .cells #[.int .i64 (Int.tmod (wrap64 (a1)) t187), .int .i64 (wrap64 (1 + (Int.tmod (wrap64 (a2)) (wrap64 (t187 - (Int.tmod (wrap64 (a1)) t187))))))] 24 (0, 0)) (by (with_reducible repeat (first | refine blk_drewN ?_ _ | refine blk_drew ?_ | refine blk_alloc ?_ _)); exact BK188.out)) (g := gb195) (o := .cells #[.int .i64 (Int.tmod (wrap64 (a3)) (wrap64 (1 + (Int.tmod (wrap64 (a2)) (wrap64 (t187 - (Int.tmod (wrap64 (a1)) t187))))))), .int .i64 (wrap64 (1 + (Int.tmod (wrap64 (a4)) (wrap64 ((wrap64 (1 + (Int.tmod (wrap64 (a2)) (wrap64 (t187 - (Int.tmod (wrap64 (a1)) t187)))))) - (Int.tmod (wrap64 (a3)) (wrap64 (1 + (Int.tmod (wrap64 (a2)) (wrap64 (t187 - (Int.tmod (wrap64 (a1)) t187))))))))))))] 24 (0, 0)) (by (with_reducible repeat (first | refine blk_drewN ?_ _ | refine blk_drew ?_ | refine blk_alloc ?_ _)); exact BK195.out)) (below_size (by repeat (first | (with_reducible first | exact HB.out | apply below_alloc | apply pw_below_drewN | apply below_drew1 | refine below_set ?_ GE188.out | refine below_set ?_ GE195.out) | exact HB.out))))
                          have n3_ := Aside0.mk (blk_below (g := gb188) (o := .cells #[.int .i64 (Int.tmod (wrap64 (a1)) t187), .int .i64 (wrap64 (1 + (Int.tmod (wrap64 (a2)) (wrap64 (t187 - (Int.tmod (wrap64 (a1)) t187))))))] 24 (0, 0)) (by (with_reducible repeat (first | refine blk_drewN ?_ _ | refine blk_drew ?_ | refine blk_alloc ?_ _)); exact BK188.out) hb)
                          have n4_ := Aside0.mk (blk_below (g := gb195) (o := .cells #[.int .i64 (Int.tmod (wrap64 (a3)) (wrap64 (1 + (Int.tmod (wrap64 (a2)) (wrap64 (t187 - (Int.tmod (wrap64 (a1)) t187))))))), .int .i64 (wrap64 (1 + (Int.tmod (wrap64 (a4)) (wrap64 ((wrap64 (1 + (Int.tmod (wrap64 (a2)) (wrap64 (t187 - (Int.tmod (wrap64 (a1)) t187)))))) - (Int.tmod (wrap64 (a3)) (wrap64 (1 + (Int.tmod (wrap64 (a2)) (wrap64 (t187 - (Int.tmod (wrap64 (a1)) t187))))))))))))] 24 (0, 0)) (by (with_reducible repeat (first | refine blk_drewN ?_ _ | refine blk_drew ?_ | refine blk_alloc ?_ _)); exact BK195.out) hb)
                          have n5_ := Aside0.mk (below_step (by repeat (first | (with_reducible first | exact HB.out | apply below_alloc | apply pw_below_drewN | apply below_drew1 | refine below_set ?_ GE188.out | refine below_set ?_ GE195.out) | exact HB.out)) hb)
                          clear HO_15
                          clear HO198
                          clear BK188
                          clear BK195
                          clear HB
                          have HO_15 := n0_
                          have HO198 := n1_
                          have HO201 := n2_
                          have BK188 := n3_
                          have BK195 := n4_
                          have HB := n5_
                          clear n0_ n1_ n2_ n3_ n4_ n5_
                          (try clear hb)
                          (try clear hb2)
                          (try clear hk)
                          (try clear hi)
                          (try clear ho0)
                          obtain ⟨Ao55, co55, eo55⟩ := Kd.R_slice HO198.out
                          (first | subst eo55 | (injection eo55 with f1_ f2_ f3_; have f4_ := f1_.symm; have f5_ := f3_.symm; clear f1_ f2_ f3_; subst f4_; subst f5_))
                          obtain ⟨Ao56, co56, eo56⟩ := Kd.R_slice HO201.out
                          (first | subst eo56 | (injection eo56 with f1_ f2_ f3_; have f4_ := f1_.symm; have f5_ := f3_.symm; clear f1_ f2_ f3_; subst f4_; subst f5_))
                          refine hK.out _ _ ⟨(blk_cell BK195.out 0).trans rfl, (blk_cell BK195.out 1).trans rfl, (blk_cell BK188.out 0).trans rfl, (blk_cell BK188.out 1).trans rfl⟩ (fun hHeld => ?_)
                          clear hK K
                          refine norm_ (a' := ?_) ?_ ?_
                          rotate_left
                          · show Act.put _ (some 97) _ = _
                            simp only [Act.put, List.setIfInBounds_toArray, List.set_cons_zero, List.set_cons_succ, i64_w, i32_w]
                            rfl
                          refine one_ (i := 15) (N := some 98) #[true, true, true, true, true, true, true, true, true, true, true, true, true, true, true, true, false, false, false, false, false, false, false, false, false, false, false, false, false, false, false, false] rfl rfl (one_of HT_.out (by kernel_rfl)) (by decide) (fun K hK => ?_)
                          refine goes_ Try.func14 (by kernel_rfl) rfl #[.slice Ao55 t196.length co55, .slice Ao56 t199.length co56] (by rfl) rfl rfl (by (try simp only [List.map_toArray, List.map_cons, List.map_nil]); first | done | rfl | (simp only [List.length_drop, List.length_take]; rfl)) ?_
                          with_reducible refine (lockfastref04_Same.calls k1 _ _ t196 _ _ t199 true _ ?side1 ?side2 ?side3 ?side4 A43.out).mono ?_
                          (case side1 => repeat (first | exact (Kd.R_reads' HO198.out).2.2 | (with_reducible refine Kd.C_alloc ?_ _) | (with_reducible refine Kd.C_drewN ?_ _) | (with_reducible refine Kd.C_drew ?_)))
                          (case side2 => exact (Kd.R_reads' HO198.out).2.1)
                          (case side3 => repeat (first | exact (Kd.R_reads' HO201.out).2.2 | (with_reducible refine Kd.C_alloc ?_ _) | (with_reducible refine Kd.C_drewN ?_ _) | (with_reducible refine Kd.C_drew ?_)))
                          (case side4 => exact (Kd.R_reads' HO201.out).2.1)
                          rintro e w' ⟨rfl, ⟨nd, rfl⟩⟩
                          refine ⟨_, rfl, ?_⟩
                          refine hK.out _ _ ⟨(blk_cell BK195.out 0).trans rfl, (blk_cell BK195.out 1).trans rfl, (blk_cell BK188.out 0).trans rfl, (blk_cell BK188.out 1).trans rfl⟩ (fun hHeld => ?_)
                          clear hK K
                          refine norm_ (a' := ?_) ?_ ?_
                          rotate_left
                          · show Act.put _ (some 98) _ = _
                            simp only [Act.put, List.setIfInBounds_toArray, List.set_cons_zero, List.set_cons_succ, i64_w, i32_w]
                            rfl
                          refine pure_ (i := 16) (N := some 99) (v := ?_) (a' := ?_) #[true, true, true, true, true, true, true, true, true, true, true, true, true, true, true, true, true, false, false, false, false, false, false, false, false, false, false, false, false, false, false, false] rfl rfl (any_of HT_.out (by kernel_rfl)) (fun _ _ _ h => h) (Or.inl ⟨by rfl, ?_⟩) ?_ ?_
                          rotate_left
                          · intro w'
                            go_simp
                            with_reducible rfl
                          rotate_left
                          · simp only [Act.put, List.setIfInBounds_toArray, List.set_cons_zero, List.set_cons_succ, i64_w, i32_w]
                            rfl
                          refine pure_ (i := 17) (N := some 100) (v := ?_) (a' := ?_) #[true, true, true, true, true, true, true, true, true, true, true, true, true, true, true, true, true, true, false, false, false, false, false, false, false, false, false, false, false, false, false, false] rfl rfl (any_of HT_.out (by kernel_rfl)) (fun _ _ _ h => h) (Or.inl ⟨by rfl, ?_⟩) ?_ ?_
                          rotate_left
                          · intro w'
                            go_simp
                            with_reducible rfl
                          rotate_left
                          · simp only [Act.put, List.setIfInBounds_toArray, List.set_cons_zero, List.set_cons_succ, i64_w, i32_w]
                            rfl
                          refine pure_ (i := 18) (N := some 101) (v := ?_) (a' := ?_) #[true, true, true, true, true, true, true, true, true, true, true, true, true, true, true, true, true, true, true, false, false, false, false, false, false, false, false, false, false, false, false, false] rfl rfl (any_of HT_.out (by kernel_rfl)) (fun _ _ _ h => h) (Or.inl ⟨by rfl, ?_⟩) ?_ ?_
                          rotate_left
                          · intro w'
                            go_simp
                            with_reducible rfl
                          rotate_left
                          · simp only [Act.put, List.setIfInBounds_toArray, List.set_cons_zero, List.set_cons_succ, i64_w, i32_w]
                            rfl
                          refine pure_ (i := 19) (N := some 102) (v := ?_) (a' := ?_) #[true, true, true, true, true, true, true, true, true, true, true, true, true, true, true, true, true, true, true, true, false, false, false, false, false, false, false, false, false, false, false, false] rfl rfl (any_of HT_.out (by kernel_rfl)) (fun _ _ _ h => h) (Or.inl ⟨by rfl, ?_⟩) ?_ ?_
                          rotate_left
                          · intro w'
                            go_simp
                            with_reducible rfl
                          rotate_left
                          · simp only [Act.put, List.setIfInBounds_toArray, List.set_cons_zero, List.set_cons_succ, i64_w, i32_w]
                            rfl
                          refine pure_ (i := 21) (N := some 104) (v := ?_) (a' := ?_) #[true, true, true, true, true, true, true, true, true, true, true, true, true, true, true, true, true, true, true, true, false, true, false, false, false, false, false, false, false, false, false, false] rfl rfl (any_of HT_.out (by kernel_rfl)) (fun _ _ _ h => h) (Or.inl ⟨by rfl, ?_⟩) ?_ ?_
                          rotate_left
                          · intro w'
                            go_simp
                            with_reducible rfl
                          rotate_left
                          · simp only [Act.put, List.setIfInBounds_toArray, List.set_cons_zero, List.set_cons_succ, i64_w, i32_w]
                            rfl
                          refine pure_ (i := 22) (N := some 105) (v := ?_) (a' := ?_) #[true, true, true, true, true, true, true, true, true, true, true, true, true, true, true, true, true, true, true, true, false, true, true, false, false, false, false, false, false, false, false, false] rfl rfl (any_of HT_.out (by kernel_rfl)) (fun _ _ _ h => h) (Or.inl ⟨by rfl, ?_⟩) ?_ ?_
                          rotate_left
                          · intro w'
                            go_simp
                            with_reducible rfl
                          rotate_left
                          · simp only [Act.put, List.setIfInBounds_toArray, List.set_cons_zero, List.set_cons_succ, i64_w, i32_w]
                            rfl
                          refine take_ (i := 20) (N := some 103) (v := ?_) (a' := ?_) #[true, true, true, true, true, true, true, true, true, true, true, true, true, true, true, true, true, true, true, true, true, true, true, false, false, false, false, false, false, false, false, false] rfl rfl (take_ofW HT_.out HW_.out (by kernel_rfl)) (fun _ _ _ h => h) (Or.inl ⟨by rfl, ?_⟩) hHeld ?_ ?_
                          rotate_left
                          · rintro w' ⟨s0, s1, s2, s3⟩
                            go_simp
                            with_reducible rfl
                          rotate_left
                          · simp only [Act.put, List.setIfInBounds_toArray, List.set_cons_zero, List.set_cons_succ, i64_w, i32_w]
                            rfl
                          refine take_ (i := 23) (N := some 106) (v := ?_) (a' := ?_) #[true, true, true, true, true, true, true, true, true, true, true, true, true, true, true, true, true, true, true, true, true, true, true, true, false, false, false, false, false, false, false, false] rfl rfl (take_ofW HT_.out HW_.out (by kernel_rfl)) (fun _ _ _ h => h) (Or.inl ⟨by rfl, ?_⟩) hHeld ?_ ?_
                          rotate_left
                          · rintro w' ⟨s0, s1, s2, s3⟩
                            go_simp
                            with_reducible rfl
                          rotate_left
                          · simp only [Act.put, List.setIfInBounds_toArray, List.set_cons_zero, List.set_cons_succ, i64_w, i32_w]
                            rfl
                          refine pure_ (i := 24) (N := some 107) (v := ?_) (a' := ?_) #[true, true, true, true, true, true, true, true, true, true, true, true, true, true, true, true, true, true, true, true, true, true, true, true, true, false, false, false, false, false, false, false] rfl rfl (any_of HT_.out (by kernel_rfl)) (fun _ _ _ h => h) (Or.inl ⟨by rfl, ?_⟩) ?_ ?_
                          rotate_left
                          · intro w'
                            go_simp
                            with_reducible rfl
                          rotate_left
                          · simp only [Act.put, List.setIfInBounds_toArray, List.set_cons_zero, List.set_cons_succ, i64_w, i32_w]
                            rfl
                          refine pure_ (i := 25) (N := some 108) (v := ?_) (a' := ?_) #[true, true, true, true, true, true, true, true, true, true, true, true, true, true, true, true, true, true, true, true, true, true, true, true, true, true, false, false, false, false, false, false] rfl rfl (any_of HT_.out (by kernel_rfl)) (fun _ _ _ h => h) (Or.inl ⟨by rfl, ?_⟩) ?_ ?_
                          rotate_left
                          · intro w'
                            go_simp
                            with_reducible rfl
                          rotate_left
                          · simp only [Act.put, List.setIfInBounds_toArray, List.set_cons_zero, List.set_cons_succ, i64_w, i32_w]
                            rfl
                          refine pure_ (i := 26) (N := some 109) (v := ?_) (a' := ?_) #[true, true, true, true, true, true, true, true, true, true, true, true, true, true, true, true, true, true, true, true, true, true, true, true, true, true, true, false, false, false, false, false] rfl rfl (any_of HT_.out (by kernel_rfl)) (fun _ _ _ h => h) (Or.inl ⟨by rfl, ?_⟩) ?_ ?_
                          rotate_left
                          · intro w'
                            go_simp
                            with_reducible rfl
                          rotate_left
                          · simp only [Act.put, List.setIfInBounds_toArray, List.set_cons_zero, List.set_cons_succ, i64_w, i32_w]
                            rfl
                          refine one_ (i := 27) (N := some 110) #[true, true, true, true, true, true, true, true, true, true, true, true, true, true, true, true, true, true, true, true, true, true, true, true, true, true, true, true, false, false, false, false] rfl rfl (one_of HT_.out (by kernel_rfl)) (by decide) (fun K hK => ?_)
                          refine goes_ Try.func15 (by kernel_rfl) rfl #[.slice A0 l0.length c0, .agg #[.int .i64 (Int.tmod (wrap64 (a1)) t187), .int .i64 (wrap64 ((wrap64 (t187 - (Int.tmod (wrap64 (a1)) t187))) + 1))]] (by rfl) rfl rfl (by (try simp only [List.map_toArray, List.map_cons, List.map_nil]); first | done | rfl | (simp only [List.length_drop, List.length_take]; rfl)) ?_
                          with_reducible refine (piece_Cut.calls k1 _ _ l0 (Int.tmod (wrap64 (a1)) t187) (wrap64 ((wrap64 (t187 - (Int.tmod (wrap64 (a1)) t187))) + 1)) t203 _ ?side1 ?side2 A45.out).mono ?_
                          (case side1 => repeat (first | exact (Kd.C_below HR0.out (by repeat (first | (with_reducible first | exact HB.out | apply below_alloc | apply pw_below_drewN | apply below_drew1 | refine below_set ?_ GE188.out | refine below_set ?_ GE195.out) | exact HB.out))) | (with_reducible refine Kd.C_alloc ?_ _) | (with_reducible refine Kd.C_drewN ?_ _) | (with_reducible refine Kd.C_drew ?_)))
                          (case side2 => exact HC0.out)
                          rintro e w57 ⟨v204, rfl, ho0, hb⟩
                          refine ⟨_, rfl, ?_⟩
                          have n0_ := Aside0.mk (Kd.R_elder' (by (with_reducible repeat (first | apply Kd.R_alloc | apply Kd.R_drewN | apply Kd.R_drew)); exact HO_15.out) (Kd.R_base ho0) hb)
                          have n1_ := Aside0.mk (Kd.R_elder' (by (with_reducible repeat (first | apply Kd.R_alloc | apply Kd.R_drewN | apply Kd.R_drew)); exact HO198.out) (Kd.R_base ho0) hb)
                          have n2_ := Aside0.mk (Kd.R_elder' (by (with_reducible repeat (first | apply Kd.R_alloc | apply Kd.R_drewN | apply Kd.R_drew)); exact HO201.out) (Kd.R_base ho0) hb)
                          have n3_ := Aside0.mk (Kd.R_lower (Kd.R_newB (Kd.R_newB (Kd.R_new' (Kd.R_new' (Kd.R_new' ho0 (Kd.R_lt (by (with_reducible repeat (first | apply Kd.R_alloc | apply Kd.R_drewN | apply Kd.R_drew)); exact HO_15.out))) (Kd.R_lt (by (with_reducible repeat (first | apply Kd.R_alloc | apply Kd.R_drewN | apply Kd.R_drew)); exact HO198.out))) (Kd.R_lt (by (with_reducible repeat (first | apply Kd.R_alloc | apply Kd.R_drewN | apply Kd.R_drew)); exact HO201.out))) (g := gb188) (o := .cells #[.int .i64 (Int.tmod (wrap64 (a1)) t187), .int .i64 (wrap64 (1 + (Int.tmod (wrap64 (a2)) (wrap64 (t187 - (Int.tmod (wrap64 (a1)) t187))))))] 24 (0, 0)) (by (with_reducible repeat (first | refine blk_drewN ?_ _ | refine blk_drew ?_ | refine blk_alloc ?_ _)); exact BK188.out)) (g := gb195) (o := .cells #[.int .i64 (Int.tmod (wrap64 (a3)) (wrap64 (1 + (Int.tmod (wrap64 (a2)) (wrap64 (t187 - (Int.tmod (wrap64 (a1)) t187))))))), .int .i64 (wrap64 (1 + (Int.tmod (wrap64 (a4)) (wrap64 ((wrap64 (1 + (Int.tmod (wrap64 (a2)) (wrap64 (t187 - (Int.tmod (wrap64 (a1)) t187)))))) - (Int.tmod (wrap64 (a3)) (wrap64 (1 + (Int.tmod (wrap64 (a2)) (wrap64 (t187 - (Int.tmod (wrap64 (a1)) t187))))))))))))] 24 (0, 0)) (by (with_reducible repeat (first | refine blk_drewN ?_ _ | refine blk_drew ?_ | refine blk_alloc ?_ _)); exact BK195.out)) (below_size (by repeat (first | (with_reducible first | exact HB.out | apply below_alloc | apply pw_below_drewN | apply below_drew1 | refine below_set ?_ GE188.out | refine below_set ?_ GE195.out) | exact HB.out))))
                          have n4_ := Aside0.mk (blk_below (g := gb188) (o := .cells #[.int .i64 (Int.tmod (wrap64 (a1)) t187), .int .i64 (wrap64 (1 + (Int.tmod (wrap64 (a2)) (wrap64 (t187 - (Int.tmod (wrap64 (a1)) t187))))))] 24 (0, 0)) (by (with_reducible repeat (first | refine blk_drewN ?_ _ | refine blk_drew ?_ | refine blk_alloc ?_ _)); exact BK188.out) hb)
                          have n5_ := Aside0.mk (blk_below (g := gb195) (o := .cells #[.int .i64 (Int.tmod (wrap64 (a3)) (wrap64 (1 + (Int.tmod (wrap64 (a2)) (wrap64 (t187 - (Int.tmod (wrap64 (a1)) t187))))))), .int .i64 (wrap64 (1 + (Int.tmod (wrap64 (a4)) (wrap64 ((wrap64 (1 + (Int.tmod (wrap64 (a2)) (wrap64 (t187 - (Int.tmod (wrap64 (a1)) t187)))))) - (Int.tmod (wrap64 (a3)) (wrap64 (1 + (Int.tmod (wrap64 (a2)) (wrap64 (t187 - (Int.tmod (wrap64 (a1)) t187))))))))))))] 24 (0, 0)) (by (with_reducible repeat (first | refine blk_drewN ?_ _ | refine blk_drew ?_ | refine blk_alloc ?_ _)); exact BK195.out) hb)
                          have n6_ := Aside0.mk (below_step (by repeat (first | (with_reducible first | exact HB.out | apply below_alloc | apply pw_below_drewN | apply below_drew1 | refine below_set ?_ GE188.out | refine below_set ?_ GE195.out) | exact HB.out)) hb)
                          clear HO_15
                          clear HO198
                          clear HO201
                          clear BK188
                          clear BK195
                          clear HB
                          have HO_15 := n0_
                          have HO198 := n1_
                          have HO201 := n2_
                          have HO205 := n3_
                          have BK188 := n4_
                          have BK195 := n5_
                          have HB := n6_
                          clear n0_ n1_ n2_ n3_ n4_ n5_ n6_
                          (try clear hb)
                          (try clear hb2)
                          (try clear hk)
                          (try clear hi)
                          (try clear ho0)
                          obtain ⟨Ao58, co58, eo58⟩ := Kd.R_slice HO205.out
                          (first | subst eo58 | (injection eo58 with f1_ f2_ f3_; have f4_ := f1_.symm; have f5_ := f3_.symm; clear f1_ f2_ f3_; subst f4_; subst f5_))
                          refine hK.out _ _ ⟨(blk_cell BK195.out 0).trans rfl, (blk_cell BK195.out 1).trans rfl, (blk_cell BK188.out 0).trans rfl, (blk_cell BK188.out 1).trans rfl⟩ (fun hHeld => ?_)
                          clear hK K
                          refine norm_ (a' := ?_) ?_ ?_
                          rotate_left
                          · show Act.put _ (some 110) _ = _
                            simp only [Act.put, List.setIfInBounds_toArray, List.set_cons_zero, List.set_cons_succ, i64_w, i32_w]
                            rfl
                          refine pure_ (i := 28) (N := some 111) (v := ?_) (a' := ?_) #[true, true, true, true, true, true, true, true, true, true, true, true, true, true, true, true, true, true, true, true, true, true, true, true, true, true, true, true, true, false, false, false] rfl rfl (any_of HT_.out (by kernel_rfl)) (fun _ _ _ h => h) (Or.inl ⟨by rfl, ?_⟩) ?_ ?_
                          rotate_left
                          · intro w'
                            go_simp
                            with_reducible rfl
                          rotate_left
                          · simp only [Act.put, List.setIfInBounds_toArray, List.set_cons_zero, List.set_cons_succ, i64_w, i32_w]
                            rfl
                          refine pure_ (i := 29) (N := some 112) (v := ?_) (a' := ?_) #[true, true, true, true, true, true, true, true, true, true, true, true, true, true, true, true, true, true, true, true, true, true, true, true, true, true, true, true, true, true, false, false] rfl rfl (any_of HT_.out (by kernel_rfl)) (fun _ _ _ h => h) (Or.inl ⟨by rfl, ?_⟩) ?_ ?_
                          rotate_left
                          · intro w'
                            go_simp
                            with_reducible rfl
                          rotate_left
                          · simp only [Act.put, List.setIfInBounds_toArray, List.set_cons_zero, List.set_cons_succ, i64_w, i32_w]
                            rfl
                          refine pure_ (i := 30) (N := some 113) (v := ?_) (a' := ?_) #[true, true, true, true, true, true, true, true, true, true, true, true, true, true, true, true, true, true, true, true, true, true, true, true, true, true, true, true, true, true, true, false] rfl rfl (any_of HT_.out (by kernel_rfl)) (fun _ _ _ h => h) (Or.inl ⟨by rfl, ?_⟩) ?_ ?_
                          rotate_left
                          · intro w'
                            go_simp
                            with_reducible rfl
                          rotate_left
                          · simp only [Act.put, List.setIfInBounds_toArray, List.set_cons_zero, List.set_cons_succ, i64_w, i32_w]
                            rfl
                          refine pure_ (i := 31) (N := some 10) (v := ?_) (a' := ?_) #[true, true, true, true, true, true, true, true, true, true, true, true, true, true, true, true, true, true, true, true, true, true, true, true, true, true, true, true, true, true, true, true] rfl rfl (any_of HT_.out (by kernel_rfl)) (fun _ _ _ h => h) (Or.inl ⟨by rfl, ?_⟩) ?_ ?_
                          rotate_left
                          · intro w'
                            go_simp
                            with_reducible rfl
                          rotate_left
                          · simp only [Act.put, List.setIfInBounds_toArray, List.set_cons_zero, List.set_cons_succ, i64_w, i32_w]
                            rfl
                          refine done_ (done_of HT_.out (by kernel_rfl)) ?_
                          try go_wp2
                          go_ret
                          exact ⟨by first | rfl | (simp [errW_none, errW_some] <;> rfl) | (simp [*, errW_none, errW_some] <;> rfl), by repeat (first | (with_reducible first | exact HB.out | apply below_alloc | apply pw_below_drewN | apply below_drew1 | refine below_set ?_ GE188.out | refine below_set ?_ GE195.out) | exact HB.out)⟩
                        · replace c44 := Bool.eq_false_iff.mpr c44
                          subst c44
                          have H1 : (some false) = some r := by rw [if_neg (show ¬ (false = true) by decide)] at H; exact H
                          clear H
                          have H := H1
                          clear H1
                          obtain rfl := Option.some.inj H
                          have hcz59_0 : wr.cell? ⟨gb188, 0, none⟩ = some (.int .i64 (Int.tmod (wrap64 (a1)) t187)) := (blk_cell BK188.out 0).trans rfl
                          have hcz59_1 : wr.cell? ⟨gb188, 1, none⟩ = some (.int .i64 (wrap64 (1 + (Int.tmod (wrap64 (a2)) (wrap64 (t187 - (Int.tmod (wrap64 (a1)) t187))))))) := (blk_cell BK188.out 1).trans rfl
                          have hfz59_0 := blk_frozen BK188.out 0
                          have hfz59_1 := blk_frozen BK188.out 1
                          try go_wp2_with (first | ((with_reducible refine gate_dst (N := 17) rfl ?_); (try (refine gate_guard (by rfl) ?_; dsimp only)); refine box_event ?hg (N := 17) ?hd (cs := #[.int .i64 0, .int .i64 0]) (t := 24) ?hr ?_; (case hd => rfl); (case hg => rfl); (case hr => first | (go_simp; done) | (go_simp; rfl)); intro gb195 hg w60 hbox hb; have n0_ := Aside0.mk (Kd.R_below (Kd.R_elderB (by (with_reducible repeat (first | apply Kd.R_alloc | apply Kd.R_drewN | apply Kd.R_drew)); exact HO_15.out) gb195 (Nat.le_of_eq hg.symm)) hb); have n1_ := Aside0.mk (blk_below (g := gb188) (o := .cells #[.int .i64 (Int.tmod (wrap64 (a1)) t187), .int .i64 (wrap64 (1 + (Int.tmod (wrap64 (a2)) (wrap64 (t187 - (Int.tmod (wrap64 (a1)) t187))))))] 24 (0, 0)) (by (with_reducible repeat (first | refine blk_drewN ?_ _ | refine blk_drew ?_ | refine blk_alloc ?_ _)); exact BK188.out) hb); have n2_ := Aside0.mk (below_step (by repeat (first | (with_reducible first | exact HB.out | apply below_alloc | apply pw_below_drewN | apply below_drew1 | refine below_set ?_ GE188.out) | exact HB.out)) hb); have n3_ := Aside0.mk (hbox); have n4_ := Aside0.mk ((by rw [hg]; exact (below_size (by repeat (first | (with_reducible first | exact HB.out | apply below_alloc | apply pw_below_drewN | apply below_drew1 | refine below_set ?_ GE188.out) | exact HB.out))) : w.heap.size ≤ gb195)); have n5_ := Aside0.mk ((by rw [hg]; exact (below_size (by repeat (first | (with_reducible first | exact HB.out | apply below_alloc | apply pw_below_drewN | apply below_drew1 | refine below_set ?_ GE188.out) | exact HB.out))) : w.heap.size ≤ gb195)); have n6_ := Aside0.mk ((by rw [hg]; exact Nat.ne_of_lt (blk_lt (g := gb188) (o := .cells #[.int .i64 (Int.tmod (wrap64 (a1)) t187), .int .i64 (wrap64 (1 + (Int.tmod (wrap64 (a2)) (wrap64 (t187 - (Int.tmod (wrap64 (a1)) t187))))))] 24 (0, 0)) (by (with_reducible repeat (first | refine blk_drewN ?_ _ | refine blk_drew ?_ | refine blk_alloc ?_ _)); exact BK188.out)) : gb188 ≠ gb195)); have n7_ := Aside0.mk ((by rw [hg]; exact Nat.ne_of_gt (blk_lt (g := gb188) (o := .cells #[.int .i64 (Int.tmod (wrap64 (a1)) t187), .int .i64 (wrap64 (1 + (Int.tmod (wrap64 (a2)) (wrap64 (t187 - (Int.tmod (wrap64 (a1)) t187))))))] 24 (0, 0)) (by (with_reducible repeat (first | refine blk_drewN ?_ _ | refine blk_drew ?_ | refine blk_alloc ?_ _)); exact BK188.out)) : gb195 ≠ gb188)); clear HO_15; clear BK188; clear HB; have HO_15 := n0_; have BK188 := n1_; have HB := n2_; have BK195 := n3_; have GW195 := n4_; have GE195 := n5_; have NB188_195 := n6_; have NB195_188 := n7_; clear n0_ n1_ n2_ n3_ n4_ n5_ n6_ n7_; clear hb hbox hg; have hnb61 := NB195_188.out; have hnc61 := NB188_195.out; have hcz62_0 : w60.cell? ⟨gb195, 0, none⟩ = some (.int .i64 0) := (blk_cell BK195.out 0).trans rfl; have hcz62_1 : w60.cell? ⟨gb195, 1, none⟩ = some (.int .i64 0) := (blk_cell BK195.out 1).trans rfl; have hdbl_ := fun (x y z : Value) => dbl_ BK195.out x y z; have hfz62_0 := blk_frozen BK195.out 0; have hfz62_1 := blk_frozen BK195.out 1; have hcz63_0 : w60.cell? ⟨gb188, 0, none⟩ = some (.int .i64 (Int.tmod (wrap64 (a1)) t187)) := (blk_cell BK188.out 0).trans rfl; have hcz63_1 : w60.cell? ⟨gb188, 1, none⟩ = some (.int .i64 (wrap64 (1 + (Int.tmod (wrap64 (a2)) (wrap64 (t187 - (Int.tmod (wrap64 (a1)) t187))))))) := (blk_cell BK188.out 1).trans rfl; have hfz63_0 := blk_frozen BK188.out 0; have hfz63_1 := blk_frozen BK188.out 1))
                          have n0_ : Aside0 (Kd.R k24 24 (((w60.setCell ⟨gb195, 0, none⟩ (.int .i64 (Int.tmod (wrap64 (a3)) (wrap64 (1 + (Int.tmod (wrap64 (a2)) (wrap64 (t187 - (Int.tmod (wrap64 (a1)) t187))))))))).setCell ⟨gb195, 1, none⟩ (.int .i64 0)).setCell ⟨gb195, 1, none⟩ (.int .i64 (wrap64 (1 + (Int.tmod (wrap64 (a4)) (wrap64 ((wrap64 (1 + (Int.tmod (wrap64 (a2)) (wrap64 (t187 - (Int.tmod (wrap64 (a1)) t187)))))) - (Int.tmod (wrap64 (a3)) (wrap64 (1 + (Int.tmod (wrap64 (a2)) (wrap64 (t187 - (Int.tmod (wrap64 (a1)) t187)))))))))))))) w.heap.size (fun k_ => k_ ≠ gb188 ∧ k_ ≠ gb195) (.slice Ao24 t189.length co24) t189) := ⟨by (with_reducible repeat (first | apply Kd.R_alloc | apply Kd.R_drewN | apply Kd.R_drew)); exact Kd.R_mono (Kd.R_far (p := ⟨gb195, 1, none⟩) (Kd.R_far (p := ⟨gb195, 1, none⟩) (Kd.R_far (p := ⟨gb195, 0, none⟩) (Kd.R_mono HO_15.out (fun k_ hk => (⟨hk, hk.2⟩ : _ ∧ k_ ≠ gb195))) (fun _ hk => hk.2) (.int .i64 (Int.tmod (wrap64 (a3)) (wrap64 (1 + (Int.tmod (wrap64 (a2)) (wrap64 (t187 - (Int.tmod (wrap64 (a1)) t187))))))))) (fun _ hk => hk.2) (.int .i64 0)) (fun _ hk => hk.2) (.int .i64 (wrap64 (1 + (Int.tmod (wrap64 (a4)) (wrap64 ((wrap64 (1 + (Int.tmod (wrap64 (a2)) (wrap64 (t187 - (Int.tmod (wrap64 (a1)) t187)))))) - (Int.tmod (wrap64 (a3)) (wrap64 (1 + (Int.tmod (wrap64 (a2)) (wrap64 (t187 - (Int.tmod (wrap64 (a1)) t187)))))))))))))) (fun _ hk => ⟨hk.1.1, hk.1.2⟩)⟩
                          have n1_ : Aside0 ((((w60.setCell ⟨gb195, 0, none⟩ (.int .i64 (Int.tmod (wrap64 (a3)) (wrap64 (1 + (Int.tmod (wrap64 (a2)) (wrap64 (t187 - (Int.tmod (wrap64 (a1)) t187))))))))).setCell ⟨gb195, 1, none⟩ (.int .i64 0)).setCell ⟨gb195, 1, none⟩ (.int .i64 (wrap64 (1 + (Int.tmod (wrap64 (a4)) (wrap64 ((wrap64 (1 + (Int.tmod (wrap64 (a2)) (wrap64 (t187 - (Int.tmod (wrap64 (a1)) t187)))))) - (Int.tmod (wrap64 (a3)) (wrap64 (1 + (Int.tmod (wrap64 (a2)) (wrap64 (t187 - (Int.tmod (wrap64 (a1)) t187)))))))))))))).heap[gb188]? = some (.cells #[.int .i64 (Int.tmod (wrap64 (a1)) t187), .int .i64 (wrap64 (1 + (Int.tmod (wrap64 (a2)) (wrap64 (t187 - (Int.tmod (wrap64 (a1)) t187))))))] 24 (0, 0))) := ⟨by (with_reducible repeat (first | refine blk_drewN ?_ _ | refine blk_drew ?_ | refine blk_alloc ?_ _)); refine blk_far ?_ NB188_195.out _; (with_reducible repeat (first | refine blk_drewN ?_ _ | refine blk_drew ?_ | refine blk_alloc ?_ _)); refine blk_far ?_ NB188_195.out _; (with_reducible repeat (first | refine blk_drewN ?_ _ | refine blk_drew ?_ | refine blk_alloc ?_ _)); refine blk_far ?_ NB188_195.out _; (with_reducible repeat (first | refine blk_drewN ?_ _ | refine blk_drew ?_ | refine blk_alloc ?_ _)); exact BK188.out⟩
                          have n2_ : Aside0 ((((w60.setCell ⟨gb195, 0, none⟩ (.int .i64 (Int.tmod (wrap64 (a3)) (wrap64 (1 + (Int.tmod (wrap64 (a2)) (wrap64 (t187 - (Int.tmod (wrap64 (a1)) t187))))))))).setCell ⟨gb195, 1, none⟩ (.int .i64 0)).setCell ⟨gb195, 1, none⟩ (.int .i64 (wrap64 (1 + (Int.tmod (wrap64 (a4)) (wrap64 ((wrap64 (1 + (Int.tmod (wrap64 (a2)) (wrap64 (t187 - (Int.tmod (wrap64 (a1)) t187)))))) - (Int.tmod (wrap64 (a3)) (wrap64 (1 + (Int.tmod (wrap64 (a2)) (wrap64 (t187 - (Int.tmod (wrap64 (a1)) t187)))))))))))))).heap[gb195]? = some (.cells #[.int .i64 (Int.tmod (wrap64 (a3)) (wrap64 (1 + (Int.tmod (wrap64 (a2)) (wrap64 (t187 - (Int.tmod (wrap64 (a1)) t187))))))), .int .i64 (wrap64 (1 + (Int.tmod (wrap64 (a4)) (wrap64 ((wrap64 (1 + (Int.tmod (wrap64 (a2)) (wrap64 (t187 - (Int.tmod (wrap64 (a1)) t187)))))) - (Int.tmod (wrap64 (a3)) (wrap64 (1 + (Int.tmod (wrap64 (a2)) (wrap64 (t187 - (Int.tmod (wrap64 (a1)) t187))))))))))))] 24 (0, 0))) := ⟨by (with_reducible repeat (first | refine blk_drewN ?_ _ | refine blk_drew ?_ | refine blk_alloc ?_ _)); refine blk_put (cs := #[.int .i64 (Int.tmod (wrap64 (a3)) (wrap64 (1 + (Int.tmod (wrap64 (a2)) (wrap64 (t187 - (Int.tmod (wrap64 (a1)) t187))))))), .int .i64 0]) ?_ 1 _ rfl; (with_reducible repeat (first | refine blk_drewN ?_ _ | refine blk_drew ?_ | refine blk_alloc ?_ _)); refine blk_put (cs := #[.int .i64 (Int.tmod (wrap64 (a3)) (wrap64 (1 + (Int.tmod (wrap64 (a2)) (wrap64 (t187 - (Int.tmod (wrap64 (a1)) t187))))))), .int .i64 0]) ?_ 1 _ rfl; (with_reducible repeat (first | refine blk_drewN ?_ _ | refine blk_drew ?_ | refine blk_alloc ?_ _)); refine blk_put (cs := #[.int .i64 0, .int .i64 0]) ?_ 0 _ rfl; (with_reducible repeat (first | refine blk_drewN ?_ _ | refine blk_drew ?_ | refine blk_alloc ?_ _)); exact BK195.out⟩
                          have n3_ : Aside0 (Below w.heap.size w (((w60.setCell ⟨gb195, 0, none⟩ (.int .i64 (Int.tmod (wrap64 (a3)) (wrap64 (1 + (Int.tmod (wrap64 (a2)) (wrap64 (t187 - (Int.tmod (wrap64 (a1)) t187))))))))).setCell ⟨gb195, 1, none⟩ (.int .i64 0)).setCell ⟨gb195, 1, none⟩ (.int .i64 (wrap64 (1 + (Int.tmod (wrap64 (a4)) (wrap64 ((wrap64 (1 + (Int.tmod (wrap64 (a2)) (wrap64 (t187 - (Int.tmod (wrap64 (a1)) t187)))))) - (Int.tmod (wrap64 (a3)) (wrap64 (1 + (Int.tmod (wrap64 (a2)) (wrap64 (t187 - (Int.tmod (wrap64 (a1)) t187))))))))))))))) := ⟨by repeat (first | (with_reducible first | exact HB.out | apply below_alloc | apply pw_below_drewN | apply below_drew1 | refine below_set ?_ GE188.out | refine below_set ?_ GE195.out) | exact HB.out)⟩
                          (try clear HO_15)
                          (try clear BK188)
                          (try clear BK195)
                          (try clear HB)
                          generalize (((w60.setCell ⟨gb195, 0, none⟩ (.int .i64 (Int.tmod (wrap64 (a3)) (wrap64 (1 + (Int.tmod (wrap64 (a2)) (wrap64 (t187 - (Int.tmod (wrap64 (a1)) t187))))))))).setCell ⟨gb195, 1, none⟩ (.int .i64 0)).setCell ⟨gb195, 1, none⟩ (.int .i64 (wrap64 (1 + (Int.tmod (wrap64 (a4)) (wrap64 ((wrap64 (1 + (Int.tmod (wrap64 (a2)) (wrap64 (t187 - (Int.tmod (wrap64 (a1)) t187)))))) - (Int.tmod (wrap64 (a3)) (wrap64 (1 + (Int.tmod (wrap64 (a2)) (wrap64 (t187 - (Int.tmod (wrap64 (a1)) t187)))))))))))))) = w64 at n0_ n1_ n2_ n3_ ⊢
                          have HO_15 := n0_
                          have BK188 := n1_
                          have BK195 := n2_
                          have HB := n3_
                          clear n0_ n1_ n2_ n3_
                          have n0_ := Aside0.mk (Kd.R_drew HO_15.out)
                          have n1_ := Aside0.mk (blk_drew BK188.out)
                          have n2_ := Aside0.mk (blk_drew BK195.out)
                          have n3_ := Aside0.mk (below_drew1 HB.out)
                          clear HO_15
                          clear BK188
                          clear BK195
                          clear HB
                          have HO_15 := n0_
                          have BK188 := n1_
                          have BK195 := n2_
                          have HB := n3_
                          clear n0_ n1_ n2_ n3_
                          refine start_ (n := 32) (S := fun w' => w'.cell? ⟨gb195, 0, none⟩ = some (.int .i64 (Int.tmod (wrap64 (a3)) (wrap64 (1 + (Int.tmod (wrap64 (a2)) (wrap64 (t187 - (Int.tmod (wrap64 (a1)) t187)))))))) ∧ w'.cell? ⟨gb195, 1, none⟩ = some (.int .i64 (wrap64 (1 + (Int.tmod (wrap64 (a4)) (wrap64 ((wrap64 (1 + (Int.tmod (wrap64 (a2)) (wrap64 (t187 - (Int.tmod (wrap64 (a1)) t187)))))) - (Int.tmod (wrap64 (a3)) (wrap64 (1 + (Int.tmod (wrap64 (a2)) (wrap64 (t187 - (Int.tmod (wrap64 (a1)) t187))))))))))))) ∧ w'.cell? ⟨gb188, 0, none⟩ = some (.int .i64 (Int.tmod (wrap64 (a1)) t187)) ∧ w'.cell? ⟨gb188, 1, none⟩ = some (.int .i64 (wrap64 (1 + (Int.tmod (wrap64 (a2)) (wrap64 (t187 - (Int.tmod (wrap64 (a1)) t187)))))))) (ds := []) #[false, false, false, false, false, false, false, false, false, false, false, false, false, false, false, false, false, false, false, false, false, false, false, false, false, false, false, false, false, false, false, false] (by kernel_rfl) rfl rfl ⟨(blk_cell BK195.out 0).trans rfl, (blk_cell BK195.out 1).trans rfl, (blk_cell BK188.out 0).trans rfl, (blk_cell BK188.out 1).trans rfl⟩ (fun hHeld => ?_); refine with_tabW lockfastlaw14_PieceCuts.tab20 lockfastlaw14_PieceCuts.bits20 (fun HT_ HW_ => ?_)
                          generalize w64.drew = w65 at HO_15 BK188 BK195 HB hHeld ⊢
                          refine pure_ (i := 0) (N := some 83) (v := ?_) (a' := ?_) #[true, false, false, false, false, false, false, false, false, false, false, false, false, false, false, false, false, false, false, false, false, false, false, false, false, false, false, false, false, false, false, false] rfl rfl (any_of HT_.out (by kernel_rfl)) (fun _ _ _ h => h) (Or.inl ⟨by rfl, ?_⟩) ?_ ?_
                          rotate_left
                          · intro w'
                            go_simp
                            with_reducible rfl
                          rotate_left
                          · simp only [Act.put, List.setIfInBounds_toArray, List.set_cons_zero, List.set_cons_succ, i64_w, i32_w]
                            rfl
                          refine pure_ (i := 1) (N := some 84) (v := ?_) (a' := ?_) #[true, true, false, false, false, false, false, false, false, false, false, false, false, false, false, false, false, false, false, false, false, false, false, false, false, false, false, false, false, false, false, false] rfl rfl (any_of HT_.out (by kernel_rfl)) (fun _ _ _ h => h) (Or.inl ⟨by rfl, ?_⟩) ?_ ?_
                          rotate_left
                          · intro w'
                            go_simp
                            with_reducible rfl
                          rotate_left
                          · simp only [Act.put, List.setIfInBounds_toArray, List.set_cons_zero, List.set_cons_succ, i64_w, i32_w]
                            rfl
                          refine pure_ (i := 2) (N := some 85) (v := ?_) (a' := ?_) #[true, true, true, false, false, false, false, false, false, false, false, false, false, false, false, false, false, false, false, false, false, false, false, false, false, false, false, false, false, false, false, false] rfl rfl (any_of HT_.out (by kernel_rfl)) (fun _ _ _ h => h) (Or.inl ⟨by rfl, ?_⟩) ?_ ?_
                          rotate_left
                          · intro w'
                            go_simp
                            with_reducible rfl
                          rotate_left
                          · simp only [Act.put, List.setIfInBounds_toArray, List.set_cons_zero, List.set_cons_succ, i64_w, i32_w]
                            rfl
                          refine pure_ (i := 5) (N := some 88) (v := ?_) (a' := ?_) #[true, true, true, false, false, true, false, false, false, false, false, false, false, false, false, false, false, false, false, false, false, false, false, false, false, false, false, false, false, false, false, false] rfl rfl (any_of HT_.out (by kernel_rfl)) (fun _ _ _ h => h) (Or.inl ⟨by rfl, ?_⟩) ?_ ?_
                          rotate_left
                          · intro w'
                            go_simp
                            with_reducible rfl
                          rotate_left
                          · simp only [Act.put, List.setIfInBounds_toArray, List.set_cons_zero, List.set_cons_succ, i64_w, i32_w]
                            rfl
                          refine pure_ (i := 6) (N := some 89) (v := ?_) (a' := ?_) #[true, true, true, false, false, true, true, false, false, false, false, false, false, false, false, false, false, false, false, false, false, false, false, false, false, false, false, false, false, false, false, false] rfl rfl (any_of HT_.out (by kernel_rfl)) (fun _ _ _ h => h) (Or.inl ⟨by rfl, ?_⟩) ?_ ?_
                          rotate_left
                          · intro w'
                            go_simp
                            with_reducible rfl
                          rotate_left
                          · simp only [Act.put, List.setIfInBounds_toArray, List.set_cons_zero, List.set_cons_succ, i64_w, i32_w]
                            rfl
                          refine pure_ (i := 8) (N := some 91) (v := ?_) (a' := ?_) #[true, true, true, false, false, true, true, false, true, false, false, false, false, false, false, false, false, false, false, false, false, false, false, false, false, false, false, false, false, false, false, false] rfl rfl (any_of HT_.out (by kernel_rfl)) (fun _ _ _ h => h) (Or.inl ⟨by rfl, ?_⟩) ?_ ?_
                          rotate_left
                          · intro w'
                            go_simp
                            with_reducible rfl
                          rotate_left
                          · simp only [Act.put, List.setIfInBounds_toArray, List.set_cons_zero, List.set_cons_succ, i64_w, i32_w]
                            rfl
                          refine pure_ (i := 11) (N := some 94) (v := ?_) (a' := ?_) #[true, true, true, false, false, true, true, false, true, false, false, true, false, false, false, false, false, false, false, false, false, false, false, false, false, false, false, false, false, false, false, false] rfl rfl (any_of HT_.out (by kernel_rfl)) (fun _ _ _ h => h) (Or.inl ⟨by rfl, ?_⟩) ?_ ?_
                          rotate_left
                          · intro w'
                            go_simp
                            with_reducible rfl
                          rotate_left
                          · simp only [Act.put, List.setIfInBounds_toArray, List.set_cons_zero, List.set_cons_succ, i64_w, i32_w]
                            rfl
                          refine take_ (i := 3) (N := some 86) (v := ?_) (a' := ?_) #[true, true, true, true, false, true, true, false, true, false, false, true, false, false, false, false, false, false, false, false, false, false, false, false, false, false, false, false, false, false, false, false] rfl rfl (take_ofW HT_.out HW_.out (by kernel_rfl)) (fun _ _ _ h => h) (Or.inl ⟨by rfl, ?_⟩) hHeld ?_ ?_
                          rotate_left
                          · rintro w' ⟨s0, s1, s2, s3⟩
                            go_simp
                            with_reducible rfl
                          rotate_left
                          · simp only [Act.put, List.setIfInBounds_toArray, List.set_cons_zero, List.set_cons_succ, i64_w, i32_w]
                            rfl
                          refine take_ (i := 7) (N := some 90) (v := ?_) (a' := ?_) #[true, true, true, true, false, true, true, true, true, false, false, true, false, false, false, false, false, false, false, false, false, false, false, false, false, false, false, false, false, false, false, false] rfl rfl (take_ofW HT_.out HW_.out (by kernel_rfl)) (fun _ _ _ h => h) (Or.inl ⟨by rfl, ?_⟩) hHeld ?_ ?_
                          rotate_left
                          · rintro w' ⟨s0, s1, s2, s3⟩
                            go_simp
                            with_reducible rfl
                          rotate_left
                          · simp only [Act.put, List.setIfInBounds_toArray, List.set_cons_zero, List.set_cons_succ, i64_w, i32_w]
                            rfl
                          refine take_ (i := 9) (N := some 92) (v := ?_) (a' := ?_) #[true, true, true, true, false, true, true, true, true, true, false, true, false, false, false, false, false, false, false, false, false, false, false, false, false, false, false, false, false, false, false, false] rfl rfl (take_ofW HT_.out HW_.out (by kernel_rfl)) (fun _ _ _ h => h) (Or.inl ⟨by rfl, ?_⟩) hHeld ?_ ?_
                          rotate_left
                          · rintro w' ⟨s0, s1, s2, s3⟩
                            go_simp
                            with_reducible rfl
                          rotate_left
                          · simp only [Act.put, List.setIfInBounds_toArray, List.set_cons_zero, List.set_cons_succ, i64_w, i32_w]
                            rfl
                          refine pure_ (i := 10) (N := some 93) (v := ?_) (a' := ?_) #[true, true, true, true, false, true, true, true, true, true, true, true, false, false, false, false, false, false, false, false, false, false, false, false, false, false, false, false, false, false, false, false] rfl rfl (any_of HT_.out (by kernel_rfl)) (fun _ _ _ h => h) (Or.inl ⟨by rfl, ?_⟩) ?_ ?_
                          rotate_left
                          · intro w'
                            go_simp
                            with_reducible rfl
                          rotate_left
                          · simp only [Act.put, List.setIfInBounds_toArray, List.set_cons_zero, List.set_cons_succ, i64_w, i32_w]
                            rfl
                          refine take_ (i := 12) (N := some 95) (v := ?_) (a' := ?_) #[true, true, true, true, false, true, true, true, true, true, true, true, true, false, false, false, false, false, false, false, false, false, false, false, false, false, false, false, false, false, false, false] rfl rfl (take_ofW HT_.out HW_.out (by kernel_rfl)) (fun _ _ _ h => h) (Or.inl ⟨by rfl, ?_⟩) hHeld ?_ ?_
                          rotate_left
                          · rintro w' ⟨s0, s1, s2, s3⟩
                            go_simp
                            with_reducible rfl
                          rotate_left
                          · simp only [Act.put, List.setIfInBounds_toArray, List.set_cons_zero, List.set_cons_succ, i64_w, i32_w]
                            rfl
                          refine pure_ (i := 13) (N := some 96) (v := ?_) (a' := ?_) #[true, true, true, true, false, true, true, true, true, true, true, true, true, true, false, false, false, false, false, false, false, false, false, false, false, false, false, false, false, false, false, false] rfl rfl (any_of HT_.out (by kernel_rfl)) (fun _ _ _ h => h) (Or.inl ⟨by rfl, ?_⟩) ?_ ?_
                          rotate_left
                          · intro w'
                            go_simp
                            with_reducible rfl
                          rotate_left
                          · simp only [Act.put, List.setIfInBounds_toArray, List.set_cons_zero, List.set_cons_succ, i64_w, i32_w]
                            rfl
                          refine one_ (i := 4) (N := some 87) #[true, true, true, true, true, true, true, true, true, true, true, true, true, true, false, false, false, false, false, false, false, false, false, false, false, false, false, false, false, false, false, false] rfl rfl (one_of HT_.out (by kernel_rfl)) (by decide) (fun K hK => ?_)
                          refine goes_ Try.func15 (by kernel_rfl) rfl #[.slice Ao24 t189.length co24, .agg #[.int .i64 (Int.tmod (wrap64 (a3)) (wrap64 (1 + (Int.tmod (wrap64 (a2)) (wrap64 (t187 - (Int.tmod (wrap64 (a1)) t187))))))), .int .i64 (wrap64 (1 + (Int.tmod (wrap64 (a4)) (wrap64 ((wrap64 (1 + (Int.tmod (wrap64 (a2)) (wrap64 (t187 - (Int.tmod (wrap64 (a1)) t187)))))) - (Int.tmod (wrap64 (a3)) (wrap64 (1 + (Int.tmod (wrap64 (a2)) (wrap64 (t187 - (Int.tmod (wrap64 (a1)) t187))))))))))))]] (by rfl) rfl rfl (by (try simp only [List.map_toArray, List.map_cons, List.map_nil]); first | done | rfl | (simp only [List.length_drop, List.length_take]; rfl)) ?_
                          with_reducible refine (piece_Cut.calls k1 _ _ t189 (Int.tmod (wrap64 (a3)) (wrap64 (1 + (Int.tmod (wrap64 (a2)) (wrap64 (t187 - (Int.tmod (wrap64 (a1)) t187))))))) (wrap64 (1 + (Int.tmod (wrap64 (a4)) (wrap64 ((wrap64 (1 + (Int.tmod (wrap64 (a2)) (wrap64 (t187 - (Int.tmod (wrap64 (a1)) t187)))))) - (Int.tmod (wrap64 (a3)) (wrap64 (1 + (Int.tmod (wrap64 (a2)) (wrap64 (t187 - (Int.tmod (wrap64 (a1)) t187)))))))))))) t196 _ ?side1 ?side2 A41.out).mono ?_
                          (case side1 => repeat (first | exact (Kd.R_reads' HO_15.out).2.2 | (with_reducible refine Kd.C_alloc ?_ _) | (with_reducible refine Kd.C_drewN ?_ _) | (with_reducible refine Kd.C_drew ?_)))
                          (case side2 => exact (Kd.R_reads' HO_15.out).2.1)
                          rintro e w66 ⟨v197, rfl, ho0, hb⟩
                          refine ⟨_, rfl, ?_⟩
                          have n0_ := Aside0.mk (Kd.R_elder' (by (with_reducible repeat (first | apply Kd.R_alloc | apply Kd.R_drewN | apply Kd.R_drew)); exact HO_15.out) (Kd.R_base ho0) hb)
                          have n1_ := Aside0.mk (Kd.R_lower (Kd.R_newB (Kd.R_newB (Kd.R_new' ho0 (Kd.R_lt (by (with_reducible repeat (first | apply Kd.R_alloc | apply Kd.R_drewN | apply Kd.R_drew)); exact HO_15.out))) (g := gb188) (o := .cells #[.int .i64 (Int.tmod (wrap64 (a1)) t187), .int .i64 (wrap64 (1 + (Int.tmod (wrap64 (a2)) (wrap64 (t187 - (Int.tmod (wrap64 (a1)) t187))))))] 24 (0, 0)) (by (with_reducible repeat (first | refine blk_drewN ?_ _ | refine blk_drew ?_ | refine blk_alloc ?_ _)); exact BK188.out)) (g := gb195) (o := .cells #[.int .i64 (Int.tmod (wrap64 (a3)) (wrap64 (1 + (Int.tmod (wrap64 (a2)) (wrap64 (t187 - (Int.tmod (wrap64 (a1)) t187))))))), .int .i64 (wrap64 (1 + (Int.tmod (wrap64 (a4)) (wrap64 ((wrap64 (1 + (Int.tmod (wrap64 (a2)) (wrap64 (t187 - (Int.tmod (wrap64 (a1)) t187)))))) - (Int.tmod (wrap64 (a3)) (wrap64 (1 + (Int.tmod (wrap64 (a2)) (wrap64 (t187 - (Int.tmod (wrap64 (a1)) t187))))))))))))] 24 (0, 0)) (by (with_reducible repeat (first | refine blk_drewN ?_ _ | refine blk_drew ?_ | refine blk_alloc ?_ _)); exact BK195.out)) (below_size (by repeat (first | (with_reducible first | exact HB.out | apply below_alloc | apply pw_below_drewN | apply below_drew1 | refine below_set ?_ GE188.out | refine below_set ?_ GE195.out) | exact HB.out))))
                          have n2_ := Aside0.mk (blk_below (g := gb188) (o := .cells #[.int .i64 (Int.tmod (wrap64 (a1)) t187), .int .i64 (wrap64 (1 + (Int.tmod (wrap64 (a2)) (wrap64 (t187 - (Int.tmod (wrap64 (a1)) t187))))))] 24 (0, 0)) (by (with_reducible repeat (first | refine blk_drewN ?_ _ | refine blk_drew ?_ | refine blk_alloc ?_ _)); exact BK188.out) hb)
                          have n3_ := Aside0.mk (blk_below (g := gb195) (o := .cells #[.int .i64 (Int.tmod (wrap64 (a3)) (wrap64 (1 + (Int.tmod (wrap64 (a2)) (wrap64 (t187 - (Int.tmod (wrap64 (a1)) t187))))))), .int .i64 (wrap64 (1 + (Int.tmod (wrap64 (a4)) (wrap64 ((wrap64 (1 + (Int.tmod (wrap64 (a2)) (wrap64 (t187 - (Int.tmod (wrap64 (a1)) t187)))))) - (Int.tmod (wrap64 (a3)) (wrap64 (1 + (Int.tmod (wrap64 (a2)) (wrap64 (t187 - (Int.tmod (wrap64 (a1)) t187))))))))))))] 24 (0, 0)) (by (with_reducible repeat (first | refine blk_drewN ?_ _ | refine blk_drew ?_ | refine blk_alloc ?_ _)); exact BK195.out) hb)
                          have n4_ := Aside0.mk (below_step (by repeat (first | (with_reducible first | exact HB.out | apply below_alloc | apply pw_below_drewN | apply below_drew1 | refine below_set ?_ GE188.out | refine below_set ?_ GE195.out) | exact HB.out)) hb)
                          clear HO_15
                          clear BK188
                          clear BK195
                          clear HB
                          have HO_15 := n0_
                          have HO198 := n1_
                          have BK188 := n2_
                          have BK195 := n3_
                          have HB := n4_
                          clear n0_ n1_ n2_ n3_ n4_
                          (try clear hb)
                          (try clear hb2)
                          (try clear hk)
                          (try clear hi)
                          (try clear ho0)
                          refine hK.out _ _ ⟨(blk_cell BK195.out 0).trans rfl, (blk_cell BK195.out 1).trans rfl, (blk_cell BK188.out 0).trans rfl, (blk_cell BK188.out 1).trans rfl⟩ (fun hHeld => ?_)
                          clear hK K
                          refine norm_ (a' := ?_) ?_ ?_
                          rotate_left
                          · show Act.put _ (some 87) _ = _
                            simp only [Act.put, List.setIfInBounds_toArray, List.set_cons_zero, List.set_cons_succ, i64_w, i32_w]
                            rfl
                          refine one_ (i := 14) (N := some 97) #[true, true, true, true, true, true, true, true, true, true, true, true, true, true, true, false, false, false, false, false, false, false, false, false, false, false, false, false, false, false, false, false] rfl rfl (one_of HT_.out (by kernel_rfl)) (by decide) (fun K hK => ?_)
                          refine goes_ Try.func15 (by kernel_rfl) rfl #[.slice A0 l0.length c0, .agg #[.int .i64 (wrap64 ((Int.tmod (wrap64 (a1)) t187) + (Int.tmod (wrap64 (a3)) (wrap64 (1 + (Int.tmod (wrap64 (a2)) (wrap64 (t187 - (Int.tmod (wrap64 (a1)) t187))))))))), .int .i64 (wrap64 (1 + (Int.tmod (wrap64 (a4)) (wrap64 ((wrap64 (1 + (Int.tmod (wrap64 (a2)) (wrap64 (t187 - (Int.tmod (wrap64 (a1)) t187)))))) - (Int.tmod (wrap64 (a3)) (wrap64 (1 + (Int.tmod (wrap64 (a2)) (wrap64 (t187 - (Int.tmod (wrap64 (a1)) t187))))))))))))]] (by rfl) rfl rfl (by (try simp only [List.map_toArray, List.map_cons, List.map_nil]); first | done | rfl | (simp only [List.length_drop, List.length_take]; rfl)) ?_
                          with_reducible refine (piece_Cut.calls k1 _ _ l0 (wrap64 ((Int.tmod (wrap64 (a1)) t187) + (Int.tmod (wrap64 (a3)) (wrap64 (1 + (Int.tmod (wrap64 (a2)) (wrap64 (t187 - (Int.tmod (wrap64 (a1)) t187))))))))) (wrap64 (1 + (Int.tmod (wrap64 (a4)) (wrap64 ((wrap64 (1 + (Int.tmod (wrap64 (a2)) (wrap64 (t187 - (Int.tmod (wrap64 (a1)) t187)))))) - (Int.tmod (wrap64 (a3)) (wrap64 (1 + (Int.tmod (wrap64 (a2)) (wrap64 (t187 - (Int.tmod (wrap64 (a1)) t187)))))))))))) t199 _ ?side1 ?side2 A42.out).mono ?_
                          (case side1 => repeat (first | exact (Kd.C_below HR0.out HB.out) | (with_reducible refine Kd.C_alloc ?_ _) | (with_reducible refine Kd.C_drewN ?_ _) | (with_reducible refine Kd.C_drew ?_)))
                          (case side2 => exact HC0.out)
                          rintro e w67 ⟨v200, rfl, ho0, hb⟩
                          refine ⟨_, rfl, ?_⟩
                          have n0_ := Aside0.mk (Kd.R_elder' (by (with_reducible repeat (first | apply Kd.R_alloc | apply Kd.R_drewN | apply Kd.R_drew)); exact HO_15.out) (Kd.R_base ho0) hb)
                          have n1_ := Aside0.mk (Kd.R_elder' (by (with_reducible repeat (first | apply Kd.R_alloc | apply Kd.R_drewN | apply Kd.R_drew)); exact HO198.out) (Kd.R_base ho0) hb)
                          have n2_ := Aside0.mk (Kd.R_lower (Kd.R_newB (Kd.R_newB (Kd.R_new' (Kd.R_new' ho0 (Kd.R_lt (by (with_reducible repeat (first | apply Kd.R_alloc | apply Kd.R_drewN | apply Kd.R_drew)); exact HO_15.out))) (Kd.R_lt (by (with_reducible repeat (first | apply Kd.R_alloc | apply Kd.R_drewN | apply Kd.R_drew)); exact HO198.out))) (g := gb188) (o := .cells #[.int .i64 (Int.tmod (wrap64 (a1)) t187), .int .i64 (wrap64 (1 + (Int.tmod (wrap64 (a2)) (wrap64 (t187 - (Int.tmod (wrap64 (a1)) t187))))))] 24 (0, 0)) (by (with_reducible repeat (first | refine blk_drewN ?_ _ | refine blk_drew ?_ | refine blk_alloc ?_ _)); exact BK188.out)) (g := gb195) (o := .cells #[.int .i64 (Int.tmod (wrap64 (a3)) (wrap64 (1 + (Int.tmod (wrap64 (a2)) (wrap64 (t187 - (Int.tmod (wrap64 (a1)) t187))))))), .int .i64 (wrap64 (1 + (Int.tmod (wrap64 (a4)) (wrap64 ((wrap64 (1 + (Int.tmod (wrap64 (a2)) (wrap64 (t187 - (Int.tmod (wrap64 (a1)) t187)))))) - (Int.tmod (wrap64 (a3)) (wrap64 (1 + (Int.tmod (wrap64 (a2)) (wrap64 (t187 - (Int.tmod (wrap64 (a1)) t187))))))))))))] 24 (0, 0)) (by (with_reducible repeat (first | refine blk_drewN ?_ _ | refine blk_drew ?_ | refine blk_alloc ?_ _)); exact BK195.out)) (below_size (by repeat (first | (with_reducible first | exact HB.out | apply below_alloc | apply pw_below_drewN | apply below_drew1 | refine below_set ?_ GE188.out | refine below_set ?_ GE195.out) | exact HB.out))))
                          have n3_ := Aside0.mk (blk_below (g := gb188) (o := .cells #[.int .i64 (Int.tmod (wrap64 (a1)) t187), .int .i64 (wrap64 (1 + (Int.tmod (wrap64 (a2)) (wrap64 (t187 - (Int.tmod (wrap64 (a1)) t187))))))] 24 (0, 0)) (by (with_reducible repeat (first | refine blk_drewN ?_ _ | refine blk_drew ?_ | refine blk_alloc ?_ _)); exact BK188.out) hb)
                          have n4_ := Aside0.mk (blk_below (g := gb195) (o := .cells #[.int .i64 (Int.tmod (wrap64 (a3)) (wrap64 (1 + (Int.tmod (wrap64 (a2)) (wrap64 (t187 - (Int.tmod (wrap64 (a1)) t187))))))), .int .i64 (wrap64 (1 + (Int.tmod (wrap64 (a4)) (wrap64 ((wrap64 (1 + (Int.tmod (wrap64 (a2)) (wrap64 (t187 - (Int.tmod (wrap64 (a1)) t187)))))) - (Int.tmod (wrap64 (a3)) (wrap64 (1 + (Int.tmod (wrap64 (a2)) (wrap64 (t187 - (Int.tmod (wrap64 (a1)) t187))))))))))))] 24 (0, 0)) (by (with_reducible repeat (first | refine blk_drewN ?_ _ | refine blk_drew ?_ | refine blk_alloc ?_ _)); exact BK195.out) hb)
                          have n5_ := Aside0.mk (below_step (by repeat (first | (with_reducible first | exact HB.out | apply below_alloc | apply pw_below_drewN | apply below_drew1 | refine below_set ?_ GE188.out | refine below_set ?_ GE195.out) | exact HB.out)) hb)
                          clear HO_15
                          clear HO198
                          clear BK188
                          clear BK195
                          clear HB
                          have HO_15 := n0_
                          have HO198 := n1_
                          have HO201 := n2_
                          have BK188 := n3_
                          have BK195 := n4_
                          have HB := n5_
                          clear n0_ n1_ n2_ n3_ n4_ n5_
                          (try clear hb)
                          (try clear hb2)
                          (try clear hk)
                          (try clear hi)
                          (try clear ho0)
                          obtain ⟨Ao68, co68, eo68⟩ := Kd.R_slice HO198.out
                          (first | subst eo68 | (injection eo68 with f1_ f2_ f3_; have f4_ := f1_.symm; have f5_ := f3_.symm; clear f1_ f2_ f3_; subst f4_; subst f5_))
                          obtain ⟨Ao69, co69, eo69⟩ := Kd.R_slice HO201.out
                          (first | subst eo69 | (injection eo69 with f1_ f2_ f3_; have f4_ := f1_.symm; have f5_ := f3_.symm; clear f1_ f2_ f3_; subst f4_; subst f5_))
                          refine hK.out _ _ ⟨(blk_cell BK195.out 0).trans rfl, (blk_cell BK195.out 1).trans rfl, (blk_cell BK188.out 0).trans rfl, (blk_cell BK188.out 1).trans rfl⟩ (fun hHeld => ?_)
                          clear hK K
                          refine norm_ (a' := ?_) ?_ ?_
                          rotate_left
                          · show Act.put _ (some 97) _ = _
                            simp only [Act.put, List.setIfInBounds_toArray, List.set_cons_zero, List.set_cons_succ, i64_w, i32_w]
                            rfl
                          refine one_ (i := 15) (N := some 98) #[true, true, true, true, true, true, true, true, true, true, true, true, true, true, true, true, false, false, false, false, false, false, false, false, false, false, false, false, false, false, false, false] rfl rfl (one_of HT_.out (by kernel_rfl)) (by decide) (fun K hK => ?_)
                          refine goes_ Try.func14 (by kernel_rfl) rfl #[.slice Ao68 t196.length co68, .slice Ao69 t199.length co69] (by rfl) rfl rfl (by (try simp only [List.map_toArray, List.map_cons, List.map_nil]); first | done | rfl | (simp only [List.length_drop, List.length_take]; rfl)) ?_
                          with_reducible refine (lockfastref04_Same.calls k1 _ _ t196 _ _ t199 false _ ?side1 ?side2 ?side3 ?side4 A43.out).mono ?_
                          (case side1 => repeat (first | exact (Kd.R_reads' HO198.out).2.2 | (with_reducible refine Kd.C_alloc ?_ _) | (with_reducible refine Kd.C_drewN ?_ _) | (with_reducible refine Kd.C_drew ?_)))
                          (case side2 => exact (Kd.R_reads' HO198.out).2.1)
                          (case side3 => repeat (first | exact (Kd.R_reads' HO201.out).2.2 | (with_reducible refine Kd.C_alloc ?_ _) | (with_reducible refine Kd.C_drewN ?_ _) | (with_reducible refine Kd.C_drew ?_)))
                          (case side4 => exact (Kd.R_reads' HO201.out).2.1)
                          rintro e w' ⟨rfl, ⟨nd, rfl⟩⟩
                          refine ⟨_, rfl, ?_⟩
                          refine hK.out _ _ ⟨(blk_cell BK195.out 0).trans rfl, (blk_cell BK195.out 1).trans rfl, (blk_cell BK188.out 0).trans rfl, (blk_cell BK188.out 1).trans rfl⟩ (fun hHeld => ?_)
                          clear hK K
                          refine norm_ (a' := ?_) ?_ ?_
                          rotate_left
                          · show Act.put _ (some 98) _ = _
                            simp only [Act.put, List.setIfInBounds_toArray, List.set_cons_zero, List.set_cons_succ, i64_w, i32_w]
                            rfl
                          refine pure_ (i := 16) (N := some 99) (v := ?_) (a' := ?_) #[true, true, true, true, true, true, true, true, true, true, true, true, true, true, true, true, true, false, false, false, false, false, false, false, false, false, false, false, false, false, false, false] rfl rfl (any_of HT_.out (by kernel_rfl)) (fun _ _ _ h => h) (Or.inl ⟨by rfl, ?_⟩) ?_ ?_
                          rotate_left
                          · intro w'
                            go_simp
                            with_reducible rfl
                          rotate_left
                          · simp only [Act.put, List.setIfInBounds_toArray, List.set_cons_zero, List.set_cons_succ, i64_w, i32_w]
                            rfl
                          refine pure_ (i := 17) (N := some 100) (v := ?_) (a' := ?_) #[true, true, true, true, true, true, true, true, true, true, true, true, true, true, true, true, true, true, false, false, false, false, false, false, false, false, false, false, false, false, false, false] rfl rfl (any_of HT_.out (by kernel_rfl)) (fun _ _ _ h => h) (Or.inl ⟨by rfl, ?_⟩) ?_ ?_
                          rotate_left
                          · intro w'
                            go_simp
                            with_reducible rfl
                          rotate_left
                          · simp only [Act.put, List.setIfInBounds_toArray, List.set_cons_zero, List.set_cons_succ, i64_w, i32_w]
                            rfl
                          refine pure_ (i := 18) (N := some 101) (v := undef) (a' := ?_) #[true, true, true, true, true, true, true, true, true, true, true, true, true, true, true, true, true, true, true, false, false, false, false, false, false, false, false, false, false, false, false, false] rfl rfl (any_of HT_.out (by kernel_rfl)) (fun _ _ _ h => h) (Or.inr ⟨by rfl, rfl⟩) ?_ ?_
                          rotate_left
                          · simp only [Act.put, List.setIfInBounds_toArray, List.set_cons_zero, List.set_cons_succ, i64_w, i32_w]
                            rfl
                          refine pure_ (i := 19) (N := some 102) (v := undef) (a' := ?_) #[true, true, true, true, true, true, true, true, true, true, true, true, true, true, true, true, true, true, true, true, false, false, false, false, false, false, false, false, false, false, false, false] rfl rfl (any_of HT_.out (by kernel_rfl)) (fun _ _ _ h => h) (Or.inr ⟨by rfl, rfl⟩) ?_ ?_
                          rotate_left
                          · simp only [Act.put, List.setIfInBounds_toArray, List.set_cons_zero, List.set_cons_succ, i64_w, i32_w]
                            rfl
                          refine pure_ (i := 20) (N := some 103) (v := undef) (a' := ?_) #[true, true, true, true, true, true, true, true, true, true, true, true, true, true, true, true, true, true, true, true, true, false, false, false, false, false, false, false, false, false, false, false] rfl rfl (any_of HT_.out (by kernel_rfl)) (fun _ _ _ h => h) (Or.inr ⟨by rfl, rfl⟩) ?_ ?_
                          rotate_left
                          · simp only [Act.put, List.setIfInBounds_toArray, List.set_cons_zero, List.set_cons_succ, i64_w, i32_w]
                            rfl
                          refine pure_ (i := 21) (N := some 104) (v := undef) (a' := ?_) #[true, true, true, true, true, true, true, true, true, true, true, true, true, true, true, true, true, true, true, true, true, true, false, false, false, false, false, false, false, false, false, false] rfl rfl (any_of HT_.out (by kernel_rfl)) (fun _ _ _ h => h) (Or.inr ⟨by rfl, rfl⟩) ?_ ?_
                          rotate_left
                          · simp only [Act.put, List.setIfInBounds_toArray, List.set_cons_zero, List.set_cons_succ, i64_w, i32_w]
                            rfl
                          refine pure_ (i := 22) (N := some 105) (v := undef) (a' := ?_) #[true, true, true, true, true, true, true, true, true, true, true, true, true, true, true, true, true, true, true, true, true, true, true, false, false, false, false, false, false, false, false, false] rfl rfl (any_of HT_.out (by kernel_rfl)) (fun _ _ _ h => h) (Or.inr ⟨by rfl, rfl⟩) ?_ ?_
                          rotate_left
                          · simp only [Act.put, List.setIfInBounds_toArray, List.set_cons_zero, List.set_cons_succ, i64_w, i32_w]
                            rfl
                          refine pure_ (i := 23) (N := some 106) (v := undef) (a' := ?_) #[true, true, true, true, true, true, true, true, true, true, true, true, true, true, true, true, true, true, true, true, true, true, true, true, false, false, false, false, false, false, false, false] rfl rfl (any_of HT_.out (by kernel_rfl)) (fun _ _ _ h => h) (Or.inr ⟨by rfl, rfl⟩) ?_ ?_
                          rotate_left
                          · simp only [Act.put, List.setIfInBounds_toArray, List.set_cons_zero, List.set_cons_succ, i64_w, i32_w]
                            rfl
                          refine pure_ (i := 24) (N := some 107) (v := undef) (a' := ?_) #[true, true, true, true, true, true, true, true, true, true, true, true, true, true, true, true, true, true, true, true, true, true, true, true, true, false, false, false, false, false, false, false] rfl rfl (any_of HT_.out (by kernel_rfl)) (fun _ _ _ h => h) (Or.inr ⟨by rfl, rfl⟩) ?_ ?_
                          rotate_left
                          · simp only [Act.put, List.setIfInBounds_toArray, List.set_cons_zero, List.set_cons_succ, i64_w, i32_w]
                            rfl
                          refine pure_ (i := 25) (N := some 108) (v := undef) (a' := ?_) #[true, true, true, true, true, true, true, true, true, true, true, true, true, true, true, true, true, true, true, true, true, true, true, true, true, true, false, false, false, false, false, false] rfl rfl (any_of HT_.out (by kernel_rfl)) (fun _ _ _ h => h) (Or.inr ⟨by rfl, rfl⟩) ?_ ?_
                          rotate_left
                          · simp only [Act.put, List.setIfInBounds_toArray, List.set_cons_zero, List.set_cons_succ, i64_w, i32_w]
                            rfl
                          refine pure_ (i := 26) (N := some 109) (v := undef) (a' := ?_) #[true, true, true, true, true, true, true, true, true, true, true, true, true, true, true, true, true, true, true, true, true, true, true, true, true, true, true, false, false, false, false, false] rfl rfl (any_of HT_.out (by kernel_rfl)) (fun _ _ _ h => h) (Or.inr ⟨by rfl, rfl⟩) ?_ ?_
                          rotate_left
                          · simp only [Act.put, List.setIfInBounds_toArray, List.set_cons_zero, List.set_cons_succ, i64_w, i32_w]
                            rfl
                          refine pure_ (i := 27) (N := some 110) (v := undef) (a' := ?_) #[true, true, true, true, true, true, true, true, true, true, true, true, true, true, true, true, true, true, true, true, true, true, true, true, true, true, true, true, false, false, false, false] rfl rfl (any_of HT_.out (by kernel_rfl)) (fun _ _ _ h => h) (Or.inr ⟨by rfl, rfl⟩) ?_ ?_
                          rotate_left
                          · simp only [Act.put, List.setIfInBounds_toArray, List.set_cons_zero, List.set_cons_succ, i64_w, i32_w]
                            rfl
                          refine pure_ (i := 28) (N := some 111) (v := undef) (a' := ?_) #[true, true, true, true, true, true, true, true, true, true, true, true, true, true, true, true, true, true, true, true, true, true, true, true, true, true, true, true, true, false, false, false] rfl rfl (any_of HT_.out (by kernel_rfl)) (fun _ _ _ h => h) (Or.inr ⟨by rfl, rfl⟩) ?_ ?_
                          rotate_left
                          · simp only [Act.put, List.setIfInBounds_toArray, List.set_cons_zero, List.set_cons_succ, i64_w, i32_w]
                            rfl
                          refine pure_ (i := 29) (N := some 112) (v := undef) (a' := ?_) #[true, true, true, true, true, true, true, true, true, true, true, true, true, true, true, true, true, true, true, true, true, true, true, true, true, true, true, true, true, true, false, false] rfl rfl (any_of HT_.out (by kernel_rfl)) (fun _ _ _ h => h) (Or.inr ⟨by rfl, rfl⟩) ?_ ?_
                          rotate_left
                          · simp only [Act.put, List.setIfInBounds_toArray, List.set_cons_zero, List.set_cons_succ, i64_w, i32_w]
                            rfl
                          refine pure_ (i := 30) (N := some 113) (v := ?_) (a' := ?_) #[true, true, true, true, true, true, true, true, true, true, true, true, true, true, true, true, true, true, true, true, true, true, true, true, true, true, true, true, true, true, true, false] rfl rfl (any_of HT_.out (by kernel_rfl)) (fun _ _ _ h => h) (Or.inl ⟨by rfl, ?_⟩) ?_ ?_
                          rotate_left
                          · intro w'
                            go_simp
                            with_reducible rfl
                          rotate_left
                          · simp only [Act.put, List.setIfInBounds_toArray, List.set_cons_zero, List.set_cons_succ, i64_w, i32_w]
                            rfl
                          refine pure_ (i := 31) (N := some 10) (v := ?_) (a' := ?_) #[true, true, true, true, true, true, true, true, true, true, true, true, true, true, true, true, true, true, true, true, true, true, true, true, true, true, true, true, true, true, true, true] rfl rfl (any_of HT_.out (by kernel_rfl)) (fun _ _ _ h => h) (Or.inl ⟨by rfl, ?_⟩) ?_ ?_
                          rotate_left
                          · intro w'
                            go_simp
                            with_reducible rfl
                          rotate_left
                          · simp only [Act.put, List.setIfInBounds_toArray, List.set_cons_zero, List.set_cons_succ, i64_w, i32_w]
                            rfl
                          refine done_ (done_of HT_.out (by kernel_rfl)) ?_
                          try go_wp2
                          go_ret
                          exact ⟨by first | rfl | (simp [errW_none, errW_some] <;> rfl) | (simp [*, errW_none, errW_some] <;> rfl), by repeat (first | (with_reducible first | exact HB.out | apply below_alloc | apply pw_below_drewN | apply below_drew1 | refine below_set ?_ GE188.out | refine below_set ?_ GE195.out) | exact HB.out)⟩
                      · replace c40 := Bool.eq_false_iff.mpr c40
                        subst c40
                        have H1 : (some false) = some r := by rw [if_neg (show ¬ (false = true) by decide)] at H; exact H
                        clear H
                        have H := H1
                        clear H1
                        obtain rfl := Option.some.inj H
                        have hcz70_0 : wr.cell? ⟨gb188, 0, none⟩ = some (.int .i64 (Int.tmod (wrap64 (a1)) t187)) := (blk_cell BK188.out 0).trans rfl
                        have hcz70_1 : wr.cell? ⟨gb188, 1, none⟩ = some (.int .i64 (wrap64 (1 + (Int.tmod (wrap64 (a2)) (wrap64 (t187 - (Int.tmod (wrap64 (a1)) t187))))))) := (blk_cell BK188.out 1).trans rfl
                        have hfz70_0 := blk_frozen BK188.out 0
                        have hfz70_1 := blk_frozen BK188.out 1
                        try go_wp2_with (first | ((with_reducible refine gate_dst (N := 17) rfl ?_); (try (refine gate_guard (by rfl) ?_; dsimp only)); refine box_event ?hg (N := 17) ?hd (cs := #[.int .i64 0, .int .i64 0]) (t := 24) ?hr ?_; (case hd => rfl); (case hg => rfl); (case hr => first | (go_simp; done) | (go_simp; rfl)); intro gb195 hg w71 hbox hb; have n0_ := Aside0.mk (Kd.R_below (Kd.R_elderB (by (with_reducible repeat (first | apply Kd.R_alloc | apply Kd.R_drewN | apply Kd.R_drew)); exact HO_15.out) gb195 (Nat.le_of_eq hg.symm)) hb); have n1_ := Aside0.mk (blk_below (g := gb188) (o := .cells #[.int .i64 (Int.tmod (wrap64 (a1)) t187), .int .i64 (wrap64 (1 + (Int.tmod (wrap64 (a2)) (wrap64 (t187 - (Int.tmod (wrap64 (a1)) t187))))))] 24 (0, 0)) (by (with_reducible repeat (first | refine blk_drewN ?_ _ | refine blk_drew ?_ | refine blk_alloc ?_ _)); exact BK188.out) hb); have n2_ := Aside0.mk (below_step (by repeat (first | (with_reducible first | exact HB.out | apply below_alloc | apply pw_below_drewN | apply below_drew1 | refine below_set ?_ GE188.out) | exact HB.out)) hb); have n3_ := Aside0.mk (hbox); have n4_ := Aside0.mk ((by rw [hg]; exact (below_size (by repeat (first | (with_reducible first | exact HB.out | apply below_alloc | apply pw_below_drewN | apply below_drew1 | refine below_set ?_ GE188.out) | exact HB.out))) : w.heap.size ≤ gb195)); have n5_ := Aside0.mk ((by rw [hg]; exact (below_size (by repeat (first | (with_reducible first | exact HB.out | apply below_alloc | apply pw_below_drewN | apply below_drew1 | refine below_set ?_ GE188.out) | exact HB.out))) : w.heap.size ≤ gb195)); have n6_ := Aside0.mk ((by rw [hg]; exact Nat.ne_of_lt (blk_lt (g := gb188) (o := .cells #[.int .i64 (Int.tmod (wrap64 (a1)) t187), .int .i64 (wrap64 (1 + (Int.tmod (wrap64 (a2)) (wrap64 (t187 - (Int.tmod (wrap64 (a1)) t187))))))] 24 (0, 0)) (by (with_reducible repeat (first | refine blk_drewN ?_ _ | refine blk_drew ?_ | refine blk_alloc ?_ _)); exact BK188.out)) : gb188 ≠ gb195)); have n7_ := Aside0.mk ((by rw [hg]; exact Nat.ne_of_gt (blk_lt (g := gb188) (o := .cells #[.int .i64 (Int.tmod (wrap64 (a1)) t187), .int .i64 (wrap64 (1 + (Int.tmod (wrap64 (a2)) (wrap64 (t187 - (Int.tmod (wrap64 (a1)) t187))))))] 24 (0, 0)) (by (with_reducible repeat (first | refine blk_drewN ?_ _ | refine blk_drew ?_ | refine blk_alloc ?_ _)); exact BK188.out)) : gb195 ≠ gb188)); clear HO_15; clear BK188; clear HB; have HO_15 := n0_; have BK188 := n1_; have HB := n2_; have BK195 := n3_; have GW195 := n4_; have GE195 := n5_; have NB188_195 := n6_; have NB195_188 := n7_; clear n0_ n1_ n2_ n3_ n4_ n5_ n6_ n7_; clear hb hbox hg; have hnb72 := NB195_188.out; have hnc72 := NB188_195.out; have hcz73_0 : w71.cell? ⟨gb195, 0, none⟩ = some (.int .i64 0) := (blk_cell BK195.out 0).trans rfl; have hcz73_1 : w71.cell? ⟨gb195, 1, none⟩ = some (.int .i64 0) := (blk_cell BK195.out 1).trans rfl; have hdbl_ := fun (x y z : Value) => dbl_ BK195.out x y z; have hfz73_0 := blk_frozen BK195.out 0; have hfz73_1 := blk_frozen BK195.out 1; have hcz74_0 : w71.cell? ⟨gb188, 0, none⟩ = some (.int .i64 (Int.tmod (wrap64 (a1)) t187)) := (blk_cell BK188.out 0).trans rfl; have hcz74_1 : w71.cell? ⟨gb188, 1, none⟩ = some (.int .i64 (wrap64 (1 + (Int.tmod (wrap64 (a2)) (wrap64 (t187 - (Int.tmod (wrap64 (a1)) t187))))))) := (blk_cell BK188.out 1).trans rfl; have hfz74_0 := blk_frozen BK188.out 0; have hfz74_1 := blk_frozen BK188.out 1))
                        have n0_ : Aside0 (Kd.R k24 24 (((w71.setCell ⟨gb195, 0, none⟩ (.int .i64 (Int.tmod (wrap64 (a3)) (wrap64 (1 + (Int.tmod (wrap64 (a2)) (wrap64 (t187 - (Int.tmod (wrap64 (a1)) t187))))))))).setCell ⟨gb195, 1, none⟩ (.int .i64 0)).setCell ⟨gb195, 1, none⟩ (.int .i64 (wrap64 (1 + (Int.tmod (wrap64 (a4)) (wrap64 ((wrap64 (1 + (Int.tmod (wrap64 (a2)) (wrap64 (t187 - (Int.tmod (wrap64 (a1)) t187)))))) - (Int.tmod (wrap64 (a3)) (wrap64 (1 + (Int.tmod (wrap64 (a2)) (wrap64 (t187 - (Int.tmod (wrap64 (a1)) t187)))))))))))))) w.heap.size (fun k_ => k_ ≠ gb188 ∧ k_ ≠ gb195) (.slice Ao24 t189.length co24) t189) := ⟨by (with_reducible repeat (first | apply Kd.R_alloc | apply Kd.R_drewN | apply Kd.R_drew)); exact Kd.R_mono (Kd.R_far (p := ⟨gb195, 1, none⟩) (Kd.R_far (p := ⟨gb195, 1, none⟩) (Kd.R_far (p := ⟨gb195, 0, none⟩) (Kd.R_mono HO_15.out (fun k_ hk => (⟨hk, hk.2⟩ : _ ∧ k_ ≠ gb195))) (fun _ hk => hk.2) (.int .i64 (Int.tmod (wrap64 (a3)) (wrap64 (1 + (Int.tmod (wrap64 (a2)) (wrap64 (t187 - (Int.tmod (wrap64 (a1)) t187))))))))) (fun _ hk => hk.2) (.int .i64 0)) (fun _ hk => hk.2) (.int .i64 (wrap64 (1 + (Int.tmod (wrap64 (a4)) (wrap64 ((wrap64 (1 + (Int.tmod (wrap64 (a2)) (wrap64 (t187 - (Int.tmod (wrap64 (a1)) t187)))))) - (Int.tmod (wrap64 (a3)) (wrap64 (1 + (Int.tmod (wrap64 (a2)) (wrap64 (t187 - (Int.tmod (wrap64 (a1)) t187)))))))))))))) (fun _ hk => ⟨hk.1.1, hk.1.2⟩)⟩
                        have n1_ : Aside0 ((((w71.setCell ⟨gb195, 0, none⟩ (.int .i64 (Int.tmod (wrap64 (a3)) (wrap64 (1 + (Int.tmod (wrap64 (a2)) (wrap64 (t187 - (Int.tmod (wrap64 (a1)) t187))))))))).setCell ⟨gb195, 1, none⟩ (.int .i64 0)).setCell ⟨gb195, 1, none⟩ (.int .i64 (wrap64 (1 + (Int.tmod (wrap64 (a4)) (wrap64 ((wrap64 (1 + (Int.tmod (wrap64 (a2)) (wrap64 (t187 - (Int.tmod (wrap64 (a1)) t187)))))) - (Int.tmod (wrap64 (a3)) (wrap64 (1 + (Int.tmod (wrap64 (a2)) (wrap64 (t187 - (Int.tmod (wrap64 (a1)) t187)))))))))))))).heap[gb188]? = some (.cells #[.int .i64 (Int.tmod (wrap64 (a1)) t187), .int .i64 (wrap64 (1 + (Int.tmod (wrap64 (a2)) (wrap64 (t187 - (Int.tmod (wrap64 (a1)) t187))))))] 24 (0, 0))) := ⟨by (with_reducible repeat (first | refine blk_drewN ?_ _ | refine blk_drew ?_ | refine blk_alloc ?_ _)); refine blk_far ?_ NB188_195.out _; (with_reducible repeat (first | refine blk_drewN ?_ _ | refine blk_drew ?_ | refine blk_alloc ?_ _)); refine blk_far ?_ NB188_195.out _; (with_reducible repeat (first | refine blk_drewN ?_ _ | refine blk_drew ?_ | refine blk_alloc ?_ _)); refine blk_far ?_ NB188_195.out _; (with_reducible repeat (first | refine blk_drewN ?_ _ | refine blk_drew ?_ | refine blk_alloc ?_ _)); exact BK188.out⟩
                        have n2_ : Aside0 ((((w71.setCell ⟨gb195, 0, none⟩ (.int .i64 (Int.tmod (wrap64 (a3)) (wrap64 (1 + (Int.tmod (wrap64 (a2)) (wrap64 (t187 - (Int.tmod (wrap64 (a1)) t187))))))))).setCell ⟨gb195, 1, none⟩ (.int .i64 0)).setCell ⟨gb195, 1, none⟩ (.int .i64 (wrap64 (1 + (Int.tmod (wrap64 (a4)) (wrap64 ((wrap64 (1 + (Int.tmod (wrap64 (a2)) (wrap64 (t187 - (Int.tmod (wrap64 (a1)) t187)))))) - (Int.tmod (wrap64 (a3)) (wrap64 (1 + (Int.tmod (wrap64 (a2)) (wrap64 (t187 - (Int.tmod (wrap64 (a1)) t187)))))))))))))).heap[gb195]? = some (.cells #[.int .i64 (Int.tmod (wrap64 (a3)) (wrap64 (1 + (Int.tmod (wrap64 (a2)) (wrap64 (t187 - (Int.tmod (wrap64 (a1)) t187))))))), .int .i64 (wrap64 (1 + (Int.tmod (wrap64 (a4)) (wrap64 ((wrap64 (1 + (Int.tmod (wrap64 (a2)) (wrap64 (t187 - (Int.tmod (wrap64 (a1)) t187)))))) - (Int.tmod (wrap64 (a3)) (wrap64 (1 + (Int.tmod (wrap64 (a2)) (wrap64 (t187 - (Int.tmod (wrap64 (a1)) t187))))))))))))] 24 (0, 0))) := ⟨by (with_reducible repeat (first | refine blk_drewN ?_ _ | refine blk_drew ?_ | refine blk_alloc ?_ _)); refine blk_put (cs := #[.int .i64 (Int.tmod (wrap64 (a3)) (wrap64 (1 + (Int.tmod (wrap64 (a2)) (wrap64 (t187 - (Int.tmod (wrap64 (a1)) t187))))))), .int .i64 0]) ?_ 1 _ rfl; (with_reducible repeat (first | refine blk_drewN ?_ _ | refine blk_drew ?_ | refine blk_alloc ?_ _)); refine blk_put (cs := #[.int .i64 (Int.tmod (wrap64 (a3)) (wrap64 (1 + (Int.tmod (wrap64 (a2)) (wrap64 (t187 - (Int.tmod (wrap64 (a1)) t187))))))), .int .i64 0]) ?_ 1 _ rfl; (with_reducible repeat (first | refine blk_drewN ?_ _ | refine blk_drew ?_ | refine blk_alloc ?_ _)); refine blk_put (cs := #[.int .i64 0, .int .i64 0]) ?_ 0 _ rfl; (with_reducible repeat (first | refine blk_drewN ?_ _ | refine blk_drew ?_ | refine blk_alloc ?_ _)); exact BK195.out⟩
                        have n3_ : Aside0 (Below w.heap.size w (((w71.setCell ⟨gb195, 0, none⟩ (.int .i64 (Int.tmod (wrap64 (a3)) (wrap64 (1 + (Int.tmod (wrap64 (a2)) (wrap64 (t187 - (Int.tmod (wrap64 (a1)) t187))))))))).setCell ⟨gb195, 1, none⟩ (.int .i64 0)).setCell ⟨gb195, 1, none⟩ (.int .i64 (wrap64 (1 + (Int.tmod (wrap64 (a4)) (wrap64 ((wrap64 (1 + (Int.tmod (wrap64 (a2)) (wrap64 (t187 - (Int.tmod (wrap64 (a1)) t187)))))) - (Int.tmod (wrap64 (a3)) (wrap64 (1 + (Int.tmod (wrap64 (a2)) (wrap64 (t187 - (Int.tmod (wrap64 (a1)) t187))))))))))))))) := ⟨by repeat (first | (with_reducible first | exact HB.out | apply below_alloc | apply pw_below_drewN | apply below_drew1 | refine below_set ?_ GE188.out | refine below_set ?_ GE195.out) | exact HB.out)⟩
                        (try clear HO_15)
                        (try clear BK188)
                        (try clear BK195)
                        (try clear HB)
                        generalize (((w71.setCell ⟨gb195, 0, none⟩ (.int .i64 (Int.tmod (wrap64 (a3)) (wrap64 (1 + (Int.tmod (wrap64 (a2)) (wrap64 (t187 - (Int.tmod (wrap64 (a1)) t187))))))))).setCell ⟨gb195, 1, none⟩ (.int .i64 0)).setCell ⟨gb195, 1, none⟩ (.int .i64 (wrap64 (1 + (Int.tmod (wrap64 (a4)) (wrap64 ((wrap64 (1 + (Int.tmod (wrap64 (a2)) (wrap64 (t187 - (Int.tmod (wrap64 (a1)) t187)))))) - (Int.tmod (wrap64 (a3)) (wrap64 (1 + (Int.tmod (wrap64 (a2)) (wrap64 (t187 - (Int.tmod (wrap64 (a1)) t187)))))))))))))) = w75 at n0_ n1_ n2_ n3_ ⊢
                        have HO_15 := n0_
                        have BK188 := n1_
                        have BK195 := n2_
                        have HB := n3_
                        clear n0_ n1_ n2_ n3_
                        have n0_ := Aside0.mk (Kd.R_drew HO_15.out)
                        have n1_ := Aside0.mk (blk_drew BK188.out)
                        have n2_ := Aside0.mk (blk_drew BK195.out)
                        have n3_ := Aside0.mk (below_drew1 HB.out)
                        clear HO_15
                        clear BK188
                        clear BK195
                        clear HB
                        have HO_15 := n0_
                        have BK188 := n1_
                        have BK195 := n2_
                        have HB := n3_
                        clear n0_ n1_ n2_ n3_
                        refine start_ (n := 32) (S := fun w' => True) (ds := []) #[false, false, false, false, false, false, false, false, false, false, false, false, false, false, false, false, false, false, false, false, false, false, false, false, false, false, false, false, false, false, false, false] (by kernel_rfl) rfl rfl trivial (fun hHeld => ?_); refine with_tabW lockfastlaw14_PieceCuts.tab20 lockfastlaw14_PieceCuts.bits20 (fun HT_ HW_ => ?_)
                        generalize w75.drew = w76 at HO_15 BK188 BK195 HB hHeld ⊢
                        refine pure_ (i := 0) (N := some 83) (v := ?_) (a' := ?_) #[true, false, false, false, false, false, false, false, false, false, false, false, false, false, false, false, false, false, false, false, false, false, false, false, false, false, false, false, false, false, false, false] rfl rfl (any_of HT_.out (by kernel_rfl)) (fun _ _ _ h => h) (Or.inl ⟨by rfl, ?_⟩) ?_ ?_
                        rotate_left
                        · intro w'
                          go_simp
                          with_reducible rfl
                        rotate_left
                        · simp only [Act.put, List.setIfInBounds_toArray, List.set_cons_zero, List.set_cons_succ, i64_w, i32_w]
                          rfl
                        refine pure_ (i := 1) (N := some 84) (v := ?_) (a' := ?_) #[true, true, false, false, false, false, false, false, false, false, false, false, false, false, false, false, false, false, false, false, false, false, false, false, false, false, false, false, false, false, false, false] rfl rfl (any_of HT_.out (by kernel_rfl)) (fun _ _ _ h => h) (Or.inl ⟨by rfl, ?_⟩) ?_ ?_
                        rotate_left
                        · intro w'
                          go_simp
                          with_reducible rfl
                        rotate_left
                        · simp only [Act.put, List.setIfInBounds_toArray, List.set_cons_zero, List.set_cons_succ, i64_w, i32_w]
                          rfl
                        refine pure_ (i := 2) (N := some 85) (v := undef) (a' := ?_) #[true, true, true, false, false, false, false, false, false, false, false, false, false, false, false, false, false, false, false, false, false, false, false, false, false, false, false, false, false, false, false, false] rfl rfl (any_of HT_.out (by kernel_rfl)) (fun _ _ _ h => h) (Or.inr ⟨by rfl, rfl⟩) ?_ ?_
                        rotate_left
                        · simp only [Act.put, List.setIfInBounds_toArray, List.set_cons_zero, List.set_cons_succ, i64_w, i32_w]
                          rfl
                        refine pure_ (i := 3) (N := some 86) (v := undef) (a' := ?_) #[true, true, true, true, false, false, false, false, false, false, false, false, false, false, false, false, false, false, false, false, false, false, false, false, false, false, false, false, false, false, false, false] rfl rfl (any_of HT_.out (by kernel_rfl)) (fun _ _ _ h => h) (Or.inr ⟨by rfl, rfl⟩) ?_ ?_
                        rotate_left
                        · simp only [Act.put, List.setIfInBounds_toArray, List.set_cons_zero, List.set_cons_succ, i64_w, i32_w]
                          rfl
                        refine pure_ (i := 4) (N := some 87) (v := undef) (a' := ?_) #[true, true, true, true, true, false, false, false, false, false, false, false, false, false, false, false, false, false, false, false, false, false, false, false, false, false, false, false, false, false, false, false] rfl rfl (any_of HT_.out (by kernel_rfl)) (fun _ _ _ h => h) (Or.inr ⟨by rfl, rfl⟩) ?_ ?_
                        rotate_left
                        · simp only [Act.put, List.setIfInBounds_toArray, List.set_cons_zero, List.set_cons_succ, i64_w, i32_w]
                          rfl
                        refine pure_ (i := 5) (N := some 88) (v := undef) (a' := ?_) #[true, true, true, true, true, true, false, false, false, false, false, false, false, false, false, false, false, false, false, false, false, false, false, false, false, false, false, false, false, false, false, false] rfl rfl (any_of HT_.out (by kernel_rfl)) (fun _ _ _ h => h) (Or.inr ⟨by rfl, rfl⟩) ?_ ?_
                        rotate_left
                        · simp only [Act.put, List.setIfInBounds_toArray, List.set_cons_zero, List.set_cons_succ, i64_w, i32_w]
                          rfl
                        refine pure_ (i := 6) (N := some 89) (v := undef) (a' := ?_) #[true, true, true, true, true, true, true, false, false, false, false, false, false, false, false, false, false, false, false, false, false, false, false, false, false, false, false, false, false, false, false, false] rfl rfl (any_of HT_.out (by kernel_rfl)) (fun _ _ _ h => h) (Or.inr ⟨by rfl, rfl⟩) ?_ ?_
                        rotate_left
                        · simp only [Act.put, List.setIfInBounds_toArray, List.set_cons_zero, List.set_cons_succ, i64_w, i32_w]
                          rfl
                        refine pure_ (i := 7) (N := some 90) (v := undef) (a' := ?_) #[true, true, true, true, true, true, true, true, false, false, false, false, false, false, false, false, false, false, false, false, false, false, false, false, false, false, false, false, false, false, false, false] rfl rfl (any_of HT_.out (by kernel_rfl)) (fun _ _ _ h => h) (Or.inr ⟨by rfl, rfl⟩) ?_ ?_
                        rotate_left
                        · simp only [Act.put, List.setIfInBounds_toArray, List.set_cons_zero, List.set_cons_succ, i64_w, i32_w]
                          rfl
                        refine pure_ (i := 8) (N := some 91) (v := undef) (a' := ?_) #[true, true, true, true, true, true, true, true, true, false, false, false, false, false, false, false, false, false, false, false, false, false, false, false, false, false, false, false, false, false, false, false] rfl rfl (any_of HT_.out (by kernel_rfl)) (fun _ _ _ h => h) (Or.inr ⟨by rfl, rfl⟩) ?_ ?_
                        rotate_left
                        · simp only [Act.put, List.setIfInBounds_toArray, List.set_cons_zero, List.set_cons_succ, i64_w, i32_w]
                          rfl
                        refine pure_ (i := 9) (N := some 92) (v := undef) (a' := ?_) #[true, true, true, true, true, true, true, true, true, true, false, false, false, false, false, false, false, false, false, false, false, false, false, false, false, false, false, false, false, false, false, false] rfl rfl (any_of HT_.out (by kernel_rfl)) (fun _ _ _ h => h) (Or.inr ⟨by rfl, rfl⟩) ?_ ?_
                        rotate_left
                        · simp only [Act.put, List.setIfInBounds_toArray, List.set_cons_zero, List.set_cons_succ, i64_w, i32_w]
                          rfl
                        refine pure_ (i := 10) (N := some 93) (v := undef) (a' := ?_) #[true, true, true, true, true, true, true, true, true, true, true, false, false, false, false, false, false, false, false, false, false, false, false, false, false, false, false, false, false, false, false, false] rfl rfl (any_of HT_.out (by kernel_rfl)) (fun _ _ _ h => h) (Or.inr ⟨by rfl, rfl⟩) ?_ ?_
                        rotate_left
                        · simp only [Act.put, List.setIfInBounds_toArray, List.set_cons_zero, List.set_cons_succ, i64_w, i32_w]
                          rfl
                        refine pure_ (i := 11) (N := some 94) (v := undef) (a' := ?_) #[true, true, true, true, true, true, true, true, true, true, true, true, false, false, false, false, false, false, false, false, false, false, false, false, false, false, false, false, false, false, false, false] rfl rfl (any_of HT_.out (by kernel_rfl)) (fun _ _ _ h => h) (Or.inr ⟨by rfl, rfl⟩) ?_ ?_
                        rotate_left
                        · simp only [Act.put, List.setIfInBounds_toArray, List.set_cons_zero, List.set_cons_succ, i64_w, i32_w]
                          rfl
                        refine pure_ (i := 12) (N := some 95) (v := undef) (a' := ?_) #[true, true, true, true, true, true, true, true, true, true, true, true, true, false, false, false, false, false, false, false, false, false, false, false, false, false, false, false, false, false, false, false] rfl rfl (any_of HT_.out (by kernel_rfl)) (fun _ _ _ h => h) (Or.inr ⟨by rfl, rfl⟩) ?_ ?_
                        rotate_left
                        · simp only [Act.put, List.setIfInBounds_toArray, List.set_cons_zero, List.set_cons_succ, i64_w, i32_w]
                          rfl
                        refine pure_ (i := 13) (N := some 96) (v := undef) (a' := ?_) #[true, true, true, true, true, true, true, true, true, true, true, true, true, true, false, false, false, false, false, false, false, false, false, false, false, false, false, false, false, false, false, false] rfl rfl (any_of HT_.out (by kernel_rfl)) (fun _ _ _ h => h) (Or.inr ⟨by rfl, rfl⟩) ?_ ?_
                        rotate_left
                        · simp only [Act.put, List.setIfInBounds_toArray, List.set_cons_zero, List.set_cons_succ, i64_w, i32_w]
                          rfl
                        refine pure_ (i := 14) (N := some 97) (v := undef) (a' := ?_) #[true, true, true, true, true, true, true, true, true, true, true, true, true, true, true, false, false, false, false, false, false, false, false, false, false, false, false, false, false, false, false, false] rfl rfl (any_of HT_.out (by kernel_rfl)) (fun _ _ _ h => h) (Or.inr ⟨by rfl, rfl⟩) ?_ ?_
                        rotate_left
                        · simp only [Act.put, List.setIfInBounds_toArray, List.set_cons_zero, List.set_cons_succ, i64_w, i32_w]
                          rfl
                        refine pure_ (i := 15) (N := some 98) (v := undef) (a' := ?_) #[true, true, true, true, true, true, true, true, true, true, true, true, true, true, true, true, false, false, false, false, false, false, false, false, false, false, false, false, false, false, false, false] rfl rfl (any_of HT_.out (by kernel_rfl)) (fun _ _ _ h => h) (Or.inr ⟨by rfl, rfl⟩) ?_ ?_
                        rotate_left
                        · simp only [Act.put, List.setIfInBounds_toArray, List.set_cons_zero, List.set_cons_succ, i64_w, i32_w]
                          rfl
                        refine pure_ (i := 16) (N := some 99) (v := ?_) (a' := ?_) #[true, true, true, true, true, true, true, true, true, true, true, true, true, true, true, true, true, false, false, false, false, false, false, false, false, false, false, false, false, false, false, false] rfl rfl (any_of HT_.out (by kernel_rfl)) (fun _ _ _ h => h) (Or.inl ⟨by rfl, ?_⟩) ?_ ?_
                        rotate_left
                        · intro w'
                          go_simp
                          with_reducible rfl
                        rotate_left
                        · simp only [Act.put, List.setIfInBounds_toArray, List.set_cons_zero, List.set_cons_succ, i64_w, i32_w]
                          rfl
                        refine pure_ (i := 17) (N := some 100) (v := ?_) (a' := ?_) #[true, true, true, true, true, true, true, true, true, true, true, true, true, true, true, true, true, true, false, false, false, false, false, false, false, false, false, false, false, false, false, false] rfl rfl (any_of HT_.out (by kernel_rfl)) (fun _ _ _ h => h) (Or.inl ⟨by rfl, ?_⟩) ?_ ?_
                        rotate_left
                        · intro w'
                          go_simp
                          with_reducible rfl
                        rotate_left
                        · simp only [Act.put, List.setIfInBounds_toArray, List.set_cons_zero, List.set_cons_succ, i64_w, i32_w]
                          rfl
                        refine pure_ (i := 18) (N := some 101) (v := undef) (a' := ?_) #[true, true, true, true, true, true, true, true, true, true, true, true, true, true, true, true, true, true, true, false, false, false, false, false, false, false, false, false, false, false, false, false] rfl rfl (any_of HT_.out (by kernel_rfl)) (fun _ _ _ h => h) (Or.inr ⟨by rfl, rfl⟩) ?_ ?_
                        rotate_left
                        · simp only [Act.put, List.setIfInBounds_toArray, List.set_cons_zero, List.set_cons_succ, i64_w, i32_w]
                          rfl
                        refine pure_ (i := 19) (N := some 102) (v := undef) (a' := ?_) #[true, true, true, true, true, true, true, true, true, true, true, true, true, true, true, true, true, true, true, true, false, false, false, false, false, false, false, false, false, false, false, false] rfl rfl (any_of HT_.out (by kernel_rfl)) (fun _ _ _ h => h) (Or.inr ⟨by rfl, rfl⟩) ?_ ?_
                        rotate_left
                        · simp only [Act.put, List.setIfInBounds_toArray, List.set_cons_zero, List.set_cons_succ, i64_w, i32_w]
                          rfl
                        refine pure_ (i := 20) (N := some 103) (v := undef) (a' := ?_) #[true, true, true, true, true, true, true, true, true, true, true, true, true, true, true, true, true, true, true, true, true, false, false, false, false, false, false, false, false, false, false, false] rfl rfl (any_of HT_.out (by kernel_rfl)) (fun _ _ _ h => h) (Or.inr ⟨by rfl, rfl⟩) ?_ ?_
                        rotate_left
                        · simp only [Act.put, List.setIfInBounds_toArray, List.set_cons_zero, List.set_cons_succ, i64_w, i32_w]
                          rfl
                        refine pure_ (i := 21) (N := some 104) (v := undef) (a' := ?_) #[true, true, true, true, true, true, true, true, true, true, true, true, true, true, true, true, true, true, true, true, true, true, false, false, false, false, false, false, false, false, false, false] rfl rfl (any_of HT_.out (by kernel_rfl)) (fun _ _ _ h => h) (Or.inr ⟨by rfl, rfl⟩) ?_ ?_
                        rotate_left
                        · simp only [Act.put, List.setIfInBounds_toArray, List.set_cons_zero, List.set_cons_succ, i64_w, i32_w]
                          rfl
                        refine pure_ (i := 22) (N := some 105) (v := undef) (a' := ?_) #[true, true, true, true, true, true, true, true, true, true, true, true, true, true, true, true, true, true, true, true, true, true, true, false, false, false, false, false, false, false, false, false] rfl rfl (any_of HT_.out (by kernel_rfl)) (fun _ _ _ h => h) (Or.inr ⟨by rfl, rfl⟩) ?_ ?_
                        rotate_left
                        · simp only [Act.put, List.setIfInBounds_toArray, List.set_cons_zero, List.set_cons_succ, i64_w, i32_w]
                          rfl
                        refine pure_ (i := 23) (N := some 106) (v := undef) (a' := ?_) #[true, true, true, true, true, true, true, true, true, true, true, true, true, true, true, true, true, true, true, true, true, true, true, true, false, false, false, false, false, false, false, false] rfl rfl (any_of HT_.out (by kernel_rfl)) (fun _ _ _ h => h) (Or.inr ⟨by rfl, rfl⟩) ?_ ?_
                        rotate_left
                        · simp only [Act.put, List.setIfInBounds_toArray, List.set_cons_zero, List.set_cons_succ, i64_w, i32_w]
                          rfl
                        refine pure_ (i := 24) (N := some 107) (v := undef) (a' := ?_) #[true, true, true, true, true, true, true, true, true, true, true, true, true, true, true, true, true, true, true, true, true, true, true, true, true, false, false, false, false, false, false, false] rfl rfl (any_of HT_.out (by kernel_rfl)) (fun _ _ _ h => h) (Or.inr ⟨by rfl, rfl⟩) ?_ ?_
                        rotate_left
                        · simp only [Act.put, List.setIfInBounds_toArray, List.set_cons_zero, List.set_cons_succ, i64_w, i32_w]
                          rfl
                        refine pure_ (i := 25) (N := some 108) (v := undef) (a' := ?_) #[true, true, true, true, true, true, true, true, true, true, true, true, true, true, true, true, true, true, true, true, true, true, true, true, true, true, false, false, false, false, false, false] rfl rfl (any_of HT_.out (by kernel_rfl)) (fun _ _ _ h => h) (Or.inr ⟨by rfl, rfl⟩) ?_ ?_
                        rotate_left
                        · simp only [Act.put, List.setIfInBounds_toArray, List.set_cons_zero, List.set_cons_succ, i64_w, i32_w]
                          rfl
                        refine pure_ (i := 26) (N := some 109) (v := undef) (a' := ?_) #[true, true, true, true, true, true, true, true, true, true, true, true, true, true, true, true, true, true, true, true, true, true, true, true, true, true, true, false, false, false, false, false] rfl rfl (any_of HT_.out (by kernel_rfl)) (fun _ _ _ h => h) (Or.inr ⟨by rfl, rfl⟩) ?_ ?_
                        rotate_left
                        · simp only [Act.put, List.setIfInBounds_toArray, List.set_cons_zero, List.set_cons_succ, i64_w, i32_w]
                          rfl
                        refine pure_ (i := 27) (N := some 110) (v := undef) (a' := ?_) #[true, true, true, true, true, true, true, true, true, true, true, true, true, true, true, true, true, true, true, true, true, true, true, true, true, true, true, true, false, false, false, false] rfl rfl (any_of HT_.out (by kernel_rfl)) (fun _ _ _ h => h) (Or.inr ⟨by rfl, rfl⟩) ?_ ?_
                        rotate_left
                        · simp only [Act.put, List.setIfInBounds_toArray, List.set_cons_zero, List.set_cons_succ, i64_w, i32_w]
                          rfl
                        refine pure_ (i := 28) (N := some 111) (v := undef) (a' := ?_) #[true, true, true, true, true, true, true, true, true, true, true, true, true, true, true, true, true, true, true, true, true, true, true, true, true, true, true, true, true, false, false, false] rfl rfl (any_of HT_.out (by kernel_rfl)) (fun _ _ _ h => h) (Or.inr ⟨by rfl, rfl⟩) ?_ ?_
                        rotate_left
                        · simp only [Act.put, List.setIfInBounds_toArray, List.set_cons_zero, List.set_cons_succ, i64_w, i32_w]
                          rfl
                        refine pure_ (i := 29) (N := some 112) (v := undef) (a' := ?_) #[true, true, true, true, true, true, true, true, true, true, true, true, true, true, true, true, true, true, true, true, true, true, true, true, true, true, true, true, true, true, false, false] rfl rfl (any_of HT_.out (by kernel_rfl)) (fun _ _ _ h => h) (Or.inr ⟨by rfl, rfl⟩) ?_ ?_
                        rotate_left
                        · simp only [Act.put, List.setIfInBounds_toArray, List.set_cons_zero, List.set_cons_succ, i64_w, i32_w]
                          rfl
                        refine pure_ (i := 30) (N := some 113) (v := ?_) (a' := ?_) #[true, true, true, true, true, true, true, true, true, true, true, true, true, true, true, true, true, true, true, true, true, true, true, true, true, true, true, true, true, true, true, false] rfl rfl (any_of HT_.out (by kernel_rfl)) (fun _ _ _ h => h) (Or.inl ⟨by rfl, ?_⟩) ?_ ?_
                        rotate_left
                        · intro w'
                          go_simp
                          with_reducible rfl
                        rotate_left
                        · simp only [Act.put, List.setIfInBounds_toArray, List.set_cons_zero, List.set_cons_succ, i64_w, i32_w]
                          rfl
                        refine pure_ (i := 31) (N := some 10) (v := ?_) (a' := ?_) #[true, true, true, true, true, true, true, true, true, true, true, true, true, true, true, true, true, true, true, true, true, true, true, true, true, true, true, true, true, true, true, true] rfl rfl (any_of HT_.out (by kernel_rfl)) (fun _ _ _ h => h) (Or.inl ⟨by rfl, ?_⟩) ?_ ?_
                        rotate_left
                        · intro w'
                          go_simp
                          with_reducible rfl
                        rotate_left
                        · simp only [Act.put, List.setIfInBounds_toArray, List.set_cons_zero, List.set_cons_succ, i64_w, i32_w]
                          rfl
                        refine done_ (done_of HT_.out (by kernel_rfl)) ?_
                        try go_wp2
                        go_ret
                        exact ⟨by first | rfl | (simp [errW_none, errW_some] <;> rfl) | (simp [*, errW_none, errW_some] <;> rfl), by repeat (first | (with_reducible first | exact HB.out | apply below_alloc | apply pw_below_drewN | apply below_drew1 | refine below_set ?_ GE188.out | refine below_set ?_ GE195.out) | exact HB.out)⟩
          · rw [if_neg c17] at H
            have c17b0 : (t192 == (wrap64 (1 + (Int.tmod (wrap64 (a2)) (wrap64 (t187 - (Int.tmod (wrap64 (a1)) t187))))))) = false := beq_eq_false_iff_ne.mpr c17
            have c17b1 : (t192 != (wrap64 (1 + (Int.tmod (wrap64 (a2)) (wrap64 (t187 - (Int.tmod (wrap64 (a1)) t187))))))) = true := bne_iff_ne.mpr c17
            obtain rfl := Option.some.inj H
            go_enter Try.func4, Try.ntmps4
            try go_wp2_with (first | ((with_reducible refine gate_callee (f := 8) rfl ?_); refine goesL_ (some 18) rfl rfl Try.func8 (by kernel_rfl) rfl #[] rfl (by (try simp only [List.map_toArray, List.map_cons, List.map_nil]); first | done | rfl | (simp only [List.length_drop, List.length_take]; rfl)) ?_; (with_reducible refine (lockfastlaw14_awake.calls k  t185 _ A6.out).mono ?_); rintro e w77 ⟨rfl, hb⟩; refine ⟨_, rfl, ?_⟩; have n0_ := Aside0.mk (below_step (by repeat (first | (with_reducible first | exact HB.out | apply below_alloc | apply pw_below_drewN | apply below_drew1) | exact HB.out)) hb); clear HB; have HB := n0_; clear n0_; (try clear hb); (try clear hb2); (try clear hk); (try clear hi)) | ((with_reducible refine gate_callee (f := 9) rfl ?_); refine goesL_ (some 20) rfl rfl Try.func9 (by kernel_rfl) rfl #[.slice A0 l0.length c0] rfl (by (try simp only [List.map_toArray, List.map_cons, List.map_nil]); first | done | rfl | (simp only [List.length_drop, List.length_take]; rfl)) ?_; (with_reducible refine (lockfastref14_Few.calls k _ _ l0 true _ ?side1 ?side2 A7.out).mono ?_); (case side1 => repeat (first | exact (Kd.C_below HR0.out HB.out) | (with_reducible refine Kd.C_alloc ?_ _) | (with_reducible refine Kd.C_drewN ?_ _) | (with_reducible refine Kd.C_drew ?_))); (case side2 => exact HC0.out); rintro e w' ⟨rfl, ⟨nd, rfl⟩⟩; refine ⟨_, rfl, ?_⟩; (try (rw [drewN_self w77]; generalize hq_ : World.drewN w77 _ = w77; have n0_ : Aside0 (Below w.heap.size w w77) := ⟨by rw [← hq_]; exact (by repeat (first | (with_reducible first | exact HB.out | apply below_alloc | apply pw_below_drewN | apply below_drew1) | exact HB.out))⟩; clear HB hq_; have HB := n0_; clear n0_))) | ((with_reducible refine gate_callee (f := 10) rfl ?_); refine goesL_ (some 25) rfl rfl Try.func10 (by kernel_rfl) rfl #[.slice A0 l0.length c0] rfl (by (try simp only [List.map_toArray, List.map_cons, List.map_nil]); first | done | rfl | (simp only [List.length_drop, List.length_take]; rfl)) ?_; (with_reducible refine (piece_Total.calls k _ _ l0 t187 _ ?side1 ?side2 A9.out).mono ?_); (case side1 => repeat (first | exact (Kd.C_below HR0.out HB.out) | (with_reducible refine Kd.C_alloc ?_ _) | (with_reducible refine Kd.C_drewN ?_ _) | (with_reducible refine Kd.C_drew ?_))); (case side2 => exact HC0.out); rintro e w78 ⟨rfl, hb⟩; refine ⟨_, rfl, ?_⟩; have n0_ := Aside0.mk (below_step (by repeat (first | (with_reducible first | exact HB.out | apply below_alloc | apply pw_below_drewN | apply below_drew1) | exact HB.out)) hb); clear HB; have HB := n0_; clear n0_; (try clear hb); (try clear hb2); (try clear hk); (try clear hi)) | ((with_reducible refine gate_dst (N := 14) rfl ?_); (try (refine gate_guard (by rfl) ?_; dsimp only)); refine box_event ?hg (N := 14) ?hd (cs := #[.int .i64 0, .int .i64 0]) (t := 24) ?hr ?_; (case hd => rfl); (case hg => rfl); (case hr => first | (go_simp; done) | (go_simp; rfl)); intro gb188 hg w79 hbox hb; have n0_ := Aside0.mk (below_step (by repeat (first | (with_reducible first | exact HB.out | apply below_alloc | apply pw_below_drewN | apply below_drew1) | exact HB.out)) hb); have n1_ := Aside0.mk (hbox); have n2_ := Aside0.mk ((by rw [hg]; exact (below_size (by repeat (first | (with_reducible first | exact HB.out | apply below_alloc | apply pw_below_drewN | apply below_drew1) | exact HB.out))) : w.heap.size ≤ gb188)); have n3_ := Aside0.mk ((by rw [hg]; exact (below_size (by repeat (first | (with_reducible first | exact HB.out | apply below_alloc | apply pw_below_drewN | apply below_drew1) | exact HB.out))) : w.heap.size ≤ gb188)); clear HB; have HB := n0_; have BK188 := n1_; have GW188 := n2_; have GE188 := n3_; clear n0_ n1_ n2_ n3_; clear hb hbox hg; have hcz80_0 : w79.cell? ⟨gb188, 0, none⟩ = some (.int .i64 0) := (blk_cell BK188.out 0).trans rfl; have hcz80_1 : w79.cell? ⟨gb188, 1, none⟩ = some (.int .i64 0) := (blk_cell BK188.out 1).trans rfl; have hdbl_ := fun (x y z : Value) => dbl_ BK188.out x y z; have hfz80_0 := blk_frozen BK188.out 0; have hfz80_1 := blk_frozen BK188.out 1) | ((with_reducible refine gate_callee (f := 15) rfl ?_); refine goesL_ (some 45) rfl rfl Try.func15 (by kernel_rfl) rfl #[.slice A0 l0.length c0, .agg #[.int .i64 (Int.tmod (wrap64 (a1)) t187), .int .i64 (wrap64 (1 + (Int.tmod (wrap64 (a2)) (wrap64 (t187 - (Int.tmod (wrap64 (a1)) t187))))))]] rfl (by (try simp only [List.map_toArray, List.map_cons, List.map_nil]); first | done | rfl | (simp only [List.length_drop, List.length_take]; rfl)) ?_; (with_reducible refine (piece_Cut.calls k _ _ l0 (Int.tmod (wrap64 (a1)) t187) (wrap64 (1 + (Int.tmod (wrap64 (a2)) (wrap64 (t187 - (Int.tmod (wrap64 (a1)) t187)))))) t189 _ ?side1 ?side2 A15.out).mono ?_); (case side1 => exact Kd.C_below HR0.out (by repeat (first | (with_reducible first | exact HB.out | apply below_alloc | apply pw_below_drewN | apply below_drew1 | refine below_set ?_ GE188.out) | exact HB.out))); (case side2 => exact HC0.out); rintro e w81 ⟨v190, rfl, ho0, hb⟩; refine ⟨_, rfl, ?_⟩; have n0_ := Aside0.mk (Kd.R_lower (Kd.R_newB ho0 (g := gb188) (o := .cells #[.int .i64 (Int.tmod (wrap64 (a1)) t187), .int .i64 (wrap64 (1 + (Int.tmod (wrap64 (a2)) (wrap64 (t187 - (Int.tmod (wrap64 (a1)) t187))))))] 24 (0, 0)) (by (with_reducible repeat (first | refine blk_drewN ?_ _ | refine blk_drew ?_ | refine blk_alloc ?_ _)); refine blk_put (cs := #[.int .i64 (Int.tmod (wrap64 (a1)) t187), .int .i64 0]) ?_ 1 _ rfl; (with_reducible repeat (first | refine blk_drewN ?_ _ | refine blk_drew ?_ | refine blk_alloc ?_ _)); refine blk_put (cs := #[.int .i64 (Int.tmod (wrap64 (a1)) t187), .int .i64 0]) ?_ 1 _ rfl; (with_reducible repeat (first | refine blk_drewN ?_ _ | refine blk_drew ?_ | refine blk_alloc ?_ _)); refine blk_put (cs := #[.int .i64 0, .int .i64 0]) ?_ 0 _ rfl; (with_reducible repeat (first | refine blk_drewN ?_ _ | refine blk_drew ?_ | refine blk_alloc ?_ _)); exact BK188.out)) (below_size (by repeat (first | (with_reducible first | exact HB.out | apply below_alloc | apply pw_below_drewN | apply below_drew1 | refine below_set ?_ GE188.out) | exact HB.out)))); have n1_ := Aside0.mk (blk_below (g := gb188) (o := .cells #[.int .i64 (Int.tmod (wrap64 (a1)) t187), .int .i64 (wrap64 (1 + (Int.tmod (wrap64 (a2)) (wrap64 (t187 - (Int.tmod (wrap64 (a1)) t187))))))] 24 (0, 0)) (by (with_reducible repeat (first | refine blk_drewN ?_ _ | refine blk_drew ?_ | refine blk_alloc ?_ _)); refine blk_put (cs := #[.int .i64 (Int.tmod (wrap64 (a1)) t187), .int .i64 0]) ?_ 1 _ rfl; (with_reducible repeat (first | refine blk_drewN ?_ _ | refine blk_drew ?_ | refine blk_alloc ?_ _)); refine blk_put (cs := #[.int .i64 (Int.tmod (wrap64 (a1)) t187), .int .i64 0]) ?_ 1 _ rfl; (with_reducible repeat (first | refine blk_drewN ?_ _ | refine blk_drew ?_ | refine blk_alloc ?_ _)); refine blk_put (cs := #[.int .i64 0, .int .i64 0]) ?_ 0 _ rfl; (with_reducible repeat (first | refine blk_drewN ?_ _ | refine blk_drew ?_ | refine blk_alloc ?_ _)); exact BK188.out) hb); have n2_ := Aside0.mk (below_step (by repeat (first | (with_reducible first | exact HB.out | apply below_alloc | apply pw_below_drewN | apply below_drew1 | refine below_set ?_ GE188.out) | exact HB.out)) hb); clear BK188; clear HB; have HO191 := n0_; have BK188 := n1_; have HB := n2_; clear n0_ n1_ n2_; (try clear hb); (try clear hb2); (try clear hk); (try clear hi); (try clear ho0)))
            have n0_ := Aside0.mk (Kd.R_drew HO191.out)
            have n1_ := Aside0.mk (blk_drew BK188.out)
            have n2_ := Aside0.mk (below_drew1 HB.out)
            clear HO191
            clear BK188
            clear HB
            have HO191 := n0_
            have BK188 := n1_
            have HB := n2_
            clear n0_ n1_ n2_
            obtain ⟨Ao83, co83, eo83⟩ := Kd.R_slice HO191.out
            (first | subst eo83 | (injection eo83 with f1_ f2_ f3_; have f4_ := f1_.symm; have f5_ := f3_.symm; clear f1_ f2_ f3_; subst f4_; subst f5_))
            refine start_ (n := 5) (S := fun w' => w'.cell? ⟨gb188, 0, none⟩ = some (.int .i64 (Int.tmod (wrap64 (a1)) t187)) ∧ w'.cell? ⟨gb188, 1, none⟩ = some (.int .i64 (wrap64 (1 + (Int.tmod (wrap64 (a2)) (wrap64 (t187 - (Int.tmod (wrap64 (a1)) t187)))))))) (ds := []) #[false, false, false, false, false] (by kernel_rfl) rfl rfl ⟨(blk_cell BK188.out 0).trans rfl, (blk_cell BK188.out 1).trans rfl⟩ (fun hHeld => ?_)
            generalize w81.drew = w82 at HO191 BK188 HB hHeld ⊢
            refine pure_ (i := 0) (N := some 46) (v := ?_) (a' := ?_) #[true, false, false, false, false] rfl rfl (by kernel_rfl) (fun _ _ _ h => h) (Or.inl ⟨by rfl, ?_⟩) ?_ ?_
            rotate_left
            · intro w'
              go_simp
              with_reducible rfl
            rotate_left
            · simp only [Act.put, List.setIfInBounds_toArray, List.set_cons_zero, List.set_cons_succ, i64_w, i32_w]
              rfl
            refine pure_ (i := 2) (N := some 48) (v := ?_) (a' := ?_) #[true, false, true, false, false] rfl rfl (by kernel_rfl) (fun _ _ _ h => h) (Or.inl ⟨by rfl, ?_⟩) ?_ ?_
            rotate_left
            · intro w'
              go_simp
              with_reducible rfl
            rotate_left
            · simp only [Act.put, List.setIfInBounds_toArray, List.set_cons_zero, List.set_cons_succ, i64_w, i32_w]
              rfl
            refine take_ (i := 3) (N := some 49) (v := ?_) (a' := ?_) #[true, false, true, true, false] rfl rfl (by kernel_rfl) (fun _ _ _ h => h) (Or.inl ⟨by rfl, ?_⟩) hHeld ?_ ?_
            rotate_left
            · rintro w' ⟨s0, s1⟩
              go_simp
              with_reducible rfl
            rotate_left
            · simp only [Act.put, List.setIfInBounds_toArray, List.set_cons_zero, List.set_cons_succ, i64_w, i32_w]
              rfl
            refine one_ (i := 1) (N := some 47) #[true, true, true, true, false] rfl rfl (by kernel_rfl) (by decide) (fun K hK => ?_)
            refine goes_ Try.func10 (by kernel_rfl) rfl #[.slice Ao83 t189.length co83] (by rfl) rfl rfl (by (try simp only [List.map_toArray, List.map_cons, List.map_nil]); first | done | rfl | (simp only [List.length_drop, List.length_take]; rfl)) ?_
            with_reducible refine (piece_Total.calls k _ _ t189 t192 _ ?side1 ?side2 A16.out).mono ?_
            (case side1 => repeat (first | exact (Kd.R_reads' HO191.out).2.2 | (with_reducible refine Kd.C_alloc ?_ _) | (with_reducible refine Kd.C_drewN ?_ _) | (with_reducible refine Kd.C_drew ?_)))
            (case side2 => exact (Kd.R_reads' HO191.out).2.1)
            rintro e w84 ⟨rfl, hb⟩
            refine ⟨_, rfl, ?_⟩
            have n0_ := Aside0.mk (Kd.R_below (by (with_reducible repeat (first | apply Kd.R_alloc | apply Kd.R_drewN | apply Kd.R_drew)); exact HO191.out) hb)
            have n1_ := Aside0.mk (blk_below (g := gb188) (o := .cells #[.int .i64 (Int.tmod (wrap64 (a1)) t187), .int .i64 (wrap64 (1 + (Int.tmod (wrap64 (a2)) (wrap64 (t187 - (Int.tmod (wrap64 (a1)) t187))))))] 24 (0, 0)) (by (with_reducible repeat (first | refine blk_drewN ?_ _ | refine blk_drew ?_ | refine blk_alloc ?_ _)); exact BK188.out) hb)
            have n2_ := Aside0.mk (below_step (by repeat (first | (with_reducible first | exact HB.out | apply below_alloc | apply pw_below_drewN | apply below_drew1 | refine below_set ?_ GE188.out) | exact HB.out)) hb)
            clear HO191
            clear BK188
            clear HB
            have HO191 := n0_
            have BK188 := n1_
            have HB := n2_
            clear n0_ n1_ n2_
            (try clear hb)
            (try clear hb2)
            (try clear hk)
            (try clear hi)
            refine hK.out _ _ ⟨(blk_cell BK188.out 0).trans rfl, (blk_cell BK188.out 1).trans rfl⟩ (fun hHeld => ?_)
            clear hK K
            refine norm_ (a' := ?_) ?_ ?_
            rotate_left
            · show Act.put _ (some 47) _ = _
              simp only [Act.put, List.setIfInBounds_toArray, List.set_cons_zero, List.set_cons_succ, i64_w, i32_w]
              rfl
            refine pure_ (i := 4) (N := some 50) (v := ?_) (a' := ?_) #[true, true, true, true, true] rfl rfl (by kernel_rfl) (fun _ _ _ h => h) (Or.inl ⟨by rfl, ?_⟩) ?_ ?_
            rotate_left
            · intro w'
              go_simp
              with_reducible rfl
            rotate_left
            · simp only [Act.put, List.setIfInBounds_toArray, List.set_cons_zero, List.set_cons_succ, i64_w, i32_w]
              rfl
            refine done_ (by kernel_rfl) ?_
            try go_wp2
            go_ret
            exact ⟨by first | rfl | (simp [errW_none, errW_some] <;> rfl) | (simp [*, errW_none, errW_some] <;> rfl), by repeat (first | (with_reducible first | exact HB.out | apply below_alloc | apply pw_below_drewN | apply below_drew1 | refine below_set ?_ GE188.out) | exact HB.out)⟩
  · replace c8 := Bool.eq_false_iff.mpr c8
    subst c8
    have H1 : (some t185) = some r := by rw [if_neg (show ¬ (false = true) by decide)] at H; exact H
    clear H
    have H := H1
    clear H1
    obtain rfl := Option.some.inj H
    go_enter Try.func4, Try.ntmps4
    go_wp2_with (first | ((with_reducible refine gate_callee (f := 8) rfl ?_); refine goesL_ (some 18) rfl rfl Try.func8 (by kernel_rfl) rfl #[] rfl (by (try simp only [List.map_toArray, List.map_cons, List.map_nil]); first | done | rfl | (simp only [List.length_drop, List.length_take]; rfl)) ?_; (with_reducible refine (lockfastlaw14_awake.calls k  t185 _ A6.out).mono ?_); rintro e w85 ⟨rfl, hb⟩; refine ⟨_, rfl, ?_⟩; have n0_ := Aside0.mk (below_step (by repeat (first | (with_reducible first | exact HB.out | apply below_alloc | apply pw_below_drewN | apply below_drew1) | exact HB.out)) hb); clear HB; have HB := n0_; clear n0_; (try clear hb); (try clear hb2); (try clear hk); (try clear hi)) | ((with_reducible refine gate_callee (f := 9) rfl ?_); refine goesL_ (some 20) rfl rfl Try.func9 (by kernel_rfl) rfl #[.slice A0 l0.length c0] rfl (by (try simp only [List.map_toArray, List.map_cons, List.map_nil]); first | done | rfl | (simp only [List.length_drop, List.length_take]; rfl)) ?_; (with_reducible refine (lockfastref14_Few.calls k _ _ l0 false _ ?side1 ?side2 A7.out).mono ?_); (case side1 => repeat (first | exact (Kd.C_below HR0.out HB.out) | (with_reducible refine Kd.C_alloc ?_ _) | (with_reducible refine Kd.C_drewN ?_ _) | (with_reducible refine Kd.C_drew ?_))); (case side2 => exact HC0.out); rintro e w' ⟨rfl, ⟨nd, rfl⟩⟩; refine ⟨_, rfl, ?_⟩))
    go_ret
    exact ⟨by first | rfl | (simp [errW_none, errW_some] <;> rfl) | (simp [*, errW_none, errW_some] <;> rfl), by repeat (first | (with_reducible first | exact HB.out | apply below_alloc | apply pw_below_drewN | apply below_drew1) | exact HB.out)⟩

end Go.Proofs.Ytccnoemcpmdeaaa.Q
