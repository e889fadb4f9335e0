-- Written by lfprint.py of this session's own, by way of the kit's print.py; with hand-made contracts.
import Derived.Test.YtccnoemcpmdeaaaQx0
import Derived.Test.YtccnoemcpmdeaaaQx7
namespace Go.Proofs.Ytccnoemcpmdeaaa.Q
open Go.RowKit Go.Proofs.YtccnoemcpmdeaaaW.PrintWords Go.Proofs.YtccnoemcpmdeaaaW.PrintLast Go.Proofs.YtccnoemcpmdeaaaW.PrintMore
attribute [local go_sem] max2_int min2_int max_two min_two max_three min_three max_four min_four   -- for this text's walks alone
set_option linter.unusedVariables false
set_option linter.unusedSimpArgs false

/-! ### lockfastref14_Cut: function 16 -/
mutual
def lockfastref14_Cut.j0 : Nat → List (S24) → Bool → Int → Int → Option ((List (S24)))
  | 0, _, _, _, _ => none
  | k + 1, x0, x38, x155000, x155001 => if x38 = true then (some ([] : List (S24))) else (lockfastref14_Cut.l0 k x0 ([] : List (S24)) 0 0 x155000 x155001)
def lockfastref14_Cut.l0 : Nat → List (S24) → List (S24) → Int → Int → Int → Int → Option ((List (S24)))
  | 0, _, _, _, _, _, _ => none
  | k + 1, x0, x6, x7, x8, x155000, x155001 => if x8 < (x0.length : Int) then (lockfastref14_Cut.l1 k x0 x6 x7 x8 false 0 x155000 x155001) else (some x6)
def lockfastref14_Cut.l1 : Nat → List (S24) → List (S24) → Int → Int → Bool → Int → Int → Int → Option ((List (S24)))
  | 0, _, _, _, _, _, _, _, _ => none
  | k + 1, x0, x6, x7, x8, x9, x10, x155000, x155001 => if 0 ≤ x8 then (if x8 < (x0.length : Int) then (if x10 < ((rd_T24 x0 x8).f1) then (if x7 ≥ x155000 then (lockfastref14_Cut.j3 k x0 x6 x7 x8 x9 x10 (decide (x7 < (wrap64 (x155000 + x155001)))) x155000 x155001) else (lockfastref14_Cut.j3 k x0 x6 x7 x8 x9 x10 false x155000 x155001)) else (lockfastref14_Cut.l0 k x0 x6 x7 (wrap64 (x8 + 1)) x155000 x155001)) else (none)) else (none)
def lockfastref14_Cut.j3 : Nat → List (S24) → List (S24) → Int → Int → Bool → Int → Bool → Int → Int → Option ((List (S24)))
  | 0, _, _, _, _, _, _, _, _, _ => none
  | k + 1, x0, x6, x7, x8, x9, x10, x11, x155000, x155001 => if x11 = true then (lockfastref14_Cut.j4 k x0 x6 x7 x8 x9 x10 x11 x9 x155000 x155001) else (lockfastref14_Cut.j4 k x0 x6 x7 x8 x9 x10 x11 false x155000 x155001)
def lockfastref14_Cut.j4 : Nat → List (S24) → List (S24) → Int → Int → Bool → Int → Bool → Bool → Int → Int → Option ((List (S24)))
  | 0, _, _, _, _, _, _, _, _, _, _ => none
  | k + 1, x0, x6, x7, x8, x9, x10, x11, x70, x155000, x155001 => if x70 = true then (if 0 ≤ (wrap64 ((x6.length : Int) - 1)) then (if (wrap64 ((x6.length : Int) - 1)) < (x6.length : Int) then ((some (x6.set ((wrap64 ((x6.length : Int) - 1)) : Int).toNat (⟨(rd_T24 x6 (wrap64 ((x6.length : Int) - 1))).f0, wrap64 (((rd_T24 x6 (wrap64 ((x6.length : Int) - 1))).f1) + 1)⟩ : S24) : List (S24))).bind fun y160 => (if x11 = true then (if x9 = true then (lockfastref14_Cut.l1 k x0 y160 (wrap64 (x7 + 1)) x8 x11 (wrap64 (x10 + 1)) x155000 x155001) else (if 0 ≤ x8 then (if x8 < (x0.length : Int) then (if y160.length < 8796093022208 then (lockfastref14_Cut.l1 k x0 (y160 ++ [(⟨wrap64 (((rd_T24 x0 x8).f0) + x10), 1⟩ : S24)]) (wrap64 (x7 + 1)) x8 x11 (wrap64 (x10 + 1)) x155000 x155001) else (none)) else (none)) else (none))) else (lockfastref14_Cut.l1 k x0 y160 (wrap64 (x7 + 1)) x8 x11 (wrap64 (x10 + 1)) x155000 x155001))) else (none)) else (none)) else (if x11 = true then (if x9 = true then (lockfastref14_Cut.l1 k x0 x6 (wrap64 (x7 + 1)) x8 x11 (wrap64 (x10 + 1)) x155000 x155001) else (if 0 ≤ x8 then (if x8 < (x0.length : Int) then (if x6.length < 8796093022208 then (lockfastref14_Cut.l1 k x0 (x6 ++ [(⟨wrap64 (((rd_T24 x0 x8).f0) + x10), 1⟩ : S24)]) (wrap64 (x7 + 1)) x8 x11 (wrap64 (x10 + 1)) x155000 x155001) else (none)) else (none)) else (none))) else (lockfastref14_Cut.l1 k x0 x6 (wrap64 (x7 + 1)) x8 x11 (wrap64 (x10 + 1)) x155000 x155001))
end
def lockfastref14_Cut.f (k : Nat) (l0 : List (S24)) (a1_0 : Int) (a1_1 : Int) : Option ((List (S24))) := (lockfastref14_Places.f k l0).bind fun t155 => (if a1_1 < 1 then (lockfastref14_Cut.j0 k l0 true a1_0 a1_1) else (if a1_0 < 0 then (lockfastref14_Cut.j0 k l0 true a1_0 a1_1) else (if a1_0 > (t155.length : Int) then (lockfastref14_Cut.j0 k l0 true a1_0 a1_1) else (lockfastref14_Cut.j0 k l0 (decide (a1_1 > (wrap64 ((t155.length : Int) - a1_0)))) a1_0 a1_1))))
theorem lockfastref14_Cut.mono_l : ∀ k, (∀ y0 y1 y2 y3, LeO (lockfastref14_Cut.j0 k y0 y1 y2 y3) (lockfastref14_Cut.j0 (k + 1) y0 y1 y2 y3)) ∧ (∀ y0 y1 y2 y3 y4 y5, LeO (lockfastref14_Cut.l0 k y0 y1 y2 y3 y4 y5) (lockfastref14_Cut.l0 (k + 1) y0 y1 y2 y3 y4 y5)) ∧ (∀ y0 y1 y2 y3 y4 y5 y6 y7, LeO (lockfastref14_Cut.l1 k y0 y1 y2 y3 y4 y5 y6 y7) (lockfastref14_Cut.l1 (k + 1) y0 y1 y2 y3 y4 y5 y6 y7)) ∧ (∀ y0 y1 y2 y3 y4 y5 y6 y7 y8, LeO (lockfastref14_Cut.j3 k y0 y1 y2 y3 y4 y5 y6 y7 y8) (lockfastref14_Cut.j3 (k + 1) y0 y1 y2 y3 y4 y5 y6 y7 y8)) ∧ (∀ y0 y1 y2 y3 y4 y5 y6 y7 y8 y9, LeO (lockfastref14_Cut.j4 k y0 y1 y2 y3 y4 y5 y6 y7 y8 y9) (lockfastref14_Cut.j4 (k + 1) y0 y1 y2 y3 y4 y5 y6 y7 y8 y9))
  | 0 => ⟨fun _ _ _ _ r h => by simp [lockfastref14_Cut.j0] at h, fun _ _ _ _ _ _ r h => by simp [lockfastref14_Cut.l0] at h, fun _ _ _ _ _ _ _ _ r h => by simp [lockfastref14_Cut.l1] at h, fun _ _ _ _ _ _ _ _ _ r h => by simp [lockfastref14_Cut.j3] at h, fun _ _ _ _ _ _ _ _ _ _ r h => by simp [lockfastref14_Cut.j4] at h⟩
  | k + 1 => by
    obtain ⟨ih0, ih1, ih2, ih3, ih4⟩ := lockfastref14_Cut.mono_l k
    refine ⟨?_, ?_, ?_, ?_, ?_⟩
    · intro y0 y1 y2 y3
      unfold lockfastref14_Cut.j0
      repeat' first
      | (with_reducible exact ih0 _ _ _ _)
      | (with_reducible exact ih1 _ _ _ _ _ _)
      | (with_reducible exact ih2 _ _ _ _ _ _ _ _)
      | (with_reducible exact ih3 _ _ _ _ _ _ _ _ _)
      | (with_reducible exact ih4 _ _ _ _ _ _ _ _ _ _)
      | (with_reducible exact lockfastref14_Places.mono _ _)
      | (with_reducible exact LeO.refl _)
      | (with_reducible exact LeO.none _)
      | (with_reducible refine LeO.ite ?_ ?_)
      | (with_reducible refine LeO.bind ?_ (fun _ => ?_))
      | exact ih0 _ _ _ _
      | exact ih1 _ _ _ _ _ _
      | exact ih2 _ _ _ _ _ _ _ _
      | exact ih3 _ _ _ _ _ _ _ _ _
      | exact ih4 _ _ _ _ _ _ _ _ _ _
      | exact lockfastref14_Places.mono _ _
      | exact LeO.none _
      | refine LeO.ite ?_ ?_
      | refine LeO.bind ?_ (fun _ => ?_)
    · intro y0 y1 y2 y3 y4 y5
      unfold lockfastref14_Cut.l0
      repeat' first
      | (with_reducible exact ih0 _ _ _ _)
      | (with_reducible exact ih1 _ _ _ _ _ _)
      | (with_reducible exact ih2 _ _ _ _ _ _ _ _)
      | (with_reducible exact ih3 _ _ _ _ _ _ _ _ _)
      | (with_reducible exact ih4 _ _ _ _ _ _ _ _ _ _)
      | (with_reducible exact lockfastref14_Places.mono _ _)
      | (with_reducible exact LeO.refl _)
      | (with_reducible exact LeO.none _)
      | (with_reducible refine LeO.ite ?_ ?_)
      | (with_reducible refine LeO.bind ?_ (fun _ => ?_))
      | exact ih0 _ _ _ _
      | exact ih1 _ _ _ _ _ _
      | exact ih2 _ _ _ _ _ _ _ _
      | exact ih3 _ _ _ _ _ _ _ _ _
      | exact ih4 _ _ _ _ _ _ _ _ _ _
      | exact lockfastref14_Places.mono _ _
      | exact LeO.none _
      | refine LeO.ite ?_ ?_
      | refine LeO.bind ?_ (fun _ => ?_)
    · intro y0 y1 y2 y3 y4 y5 y6 y7
      unfold lockfastref14_Cut.l1
      repeat' first
      | (with_reducible exact ih0 _ _ _ _)
      | (with_reducible exact ih1 _ _ _ _ _ _)
      | (with_reducible exact ih2 _ _ _ _ _ _ _ _)
      | (with_reducible exact ih3 _ _ _ _ _ _ _ _ _)
      | (with_reducible exact ih4 _ _ _ _ _ _ _ _ _ _)
      | (with_reducible exact lockfastref14_Places.mono _ _)
      | (with_reducible exact LeO.refl _)
      | (with_reducible exact LeO.none _)
      | (with_reducible refine LeO.ite ?_ ?_)
      | (with_reducible refine LeO.bind ?_ (fun _ => ?_))
      | exact ih0 _ _ _ _
      | exact ih1 _ _ _ _ _ _
      | exact ih2 _ _ _ _ _ _ _ _
      | exact ih3 _ _ _ _ _ _ _ _ _
      | exact ih4 _ _ _ _ _ _ _ _ _ _
      | exact lockfastref14_Places.mono _ _
      | exact LeO.none _
      | refine LeO.ite ?_ ?_
      | refine LeO.bind ?_ (fun _ => ?_)
    · intro y0 y1 y2 y3 y4 y5 y6 y7 y8
      unfold lockfastref14_Cut.j3
      repeat' first
      | (with_reducible exact ih0 _ _ _ _)
      | (with_reducible exact ih1 _ _ _ _ _ _)
      | (with_reducible exact ih2 _ _ _ _ _ _ _ _)
      | (with_reducible exact ih3 _ _ _ _ _ _ _ _ _)
      | (with_reducible exact ih4 _ _ _ _ _ _ _ _ _ _)
      | (with_reducible exact lockfastref14_Places.mono _ _)
      | (with_reducible exact LeO.refl _)
      | (with_reducible exact LeO.none _)
      | (with_reducible refine LeO.ite ?_ ?_)
      | (with_reducible refine LeO.bind ?_ (fun _ => ?_))
      | exact ih0 _ _ _ _
      | exact ih1 _ _ _ _ _ _
      | exact ih2 _ _ _ _ _ _ _ _
      | exact ih3 _ _ _ _ _ _ _ _ _
      | exact ih4 _ _ _ _ _ _ _ _ _ _
      | exact lockfastref14_Places.mono _ _
      | exact LeO.none _
      | refine LeO.ite ?_ ?_
      | refine LeO.bind ?_ (fun _ => ?_)
    · intro y0 y1 y2 y3 y4 y5 y6 y7 y8 y9
      unfold lockfastref14_Cut.j4
      repeat' first
      | (with_reducible exact ih0 _ _ _ _)
      | (with_reducible exact ih1 _ _ _ _ _ _)
      | (with_reducible exact ih2 _ _ _ _ _ _ _ _)
      | (with_reducible exact ih3 _ _ _ _ _ _ _ _ _)
      | (with_reducible exact ih4 _ _ _ _ _ _ _ _ _ _)
      | (with_reducible exact lockfastref14_Places.mono _ _)
      | (with_reducible exact LeO.refl _)
      | (with_reducible exact LeO.none _)
      | (with_reducible refine LeO.ite ?_ ?_)
      | (with_reducible refine LeO.bind ?_ (fun _ => ?_))
      | exact ih0 _ _ _ _
      | exact ih1 _ _ _ _ _ _
      | exact ih2 _ _ _ _ _ _ _ _
      | exact ih3 _ _ _ _ _ _ _ _ _
      | exact ih4 _ _ _ _ _ _ _ _ _ _
      | exact lockfastref14_Places.mono _ _
      | exact LeO.none _
      | refine LeO.ite ?_ ?_
      | refine LeO.bind ?_ (fun _ => ?_)
theorem lockfastref14_Cut.mono : ∀ a0 a1 a2 k, LeO (lockfastref14_Cut.f k a0 a1 a2) (lockfastref14_Cut.f (k + 1) a0 a1 a2) := by
  intro a0 a1 a2 k
  obtain ⟨ih0, ih1, ih2, ih3, ih4⟩ := lockfastref14_Cut.mono_l k
  unfold lockfastref14_Cut.f
  repeat' first
      | (with_reducible exact ih0 _ _ _ _)
      | (with_reducible exact ih1 _ _ _ _ _ _)
      | (with_reducible exact ih2 _ _ _ _ _ _ _ _)
      | (with_reducible exact ih3 _ _ _ _ _ _ _ _ _)
      | (with_reducible exact ih4 _ _ _ _ _ _ _ _ _ _)
      | (with_reducible exact lockfastref14_Places.mono _ _)
      | (with_reducible exact LeO.refl _)
      | (with_reducible exact LeO.none _)
      | (with_reducible refine LeO.ite ?_ ?_)
      | (with_reducible refine LeO.bind ?_ (fun _ => ?_))
      | exact ih0 _ _ _ _
      | exact ih1 _ _ _ _ _ _
      | exact ih2 _ _ _ _ _ _ _ _
      | exact ih3 _ _ _ _ _ _ _ _ _
      | exact ih4 _ _ _ _ _ _ _ _ _ _
      | exact lockfastref14_Places.mono _ _
      | exact LeO.none _
      | refine LeO.ite ?_ ?_
      | refine LeO.bind ?_ (fun _ => ?_)
set_option maxHeartbeats 8000000 in
set_option maxRecDepth 100000 in
theorem lockfastref14_Cut.calls (k : Nat) (A0 : Option Addr) (c0 : Nat) (l0 : List (S24)) (a1_0 : Int) (a1_1 : Int) (r : List (S24)) (w : World) (hr0 : Kd.C k24 w A0 l0.length l0) (hc0 : l0.length ≤ c0) (h : lockfastref14_Cut.f k l0 a1_0 a1_1 = some r) :
    Calls Try.prog 16 #[.slice A0 l0.length c0, .agg #[.int .i64 a1_0, .int .i64 a1_1]] w fun e w' => ∃ v0_ : Value, e = .returned (v0_) ∧ Kd.R k24 24 w' w.heap.size (fun _ => True) v0_ r ∧ Below w.heap.size w w' := by
  have hu24 := Try.underlying24
  have HR0 := Aside0.mk hr0
  have HC0 := Aside0.mk hc0
  clear hr0 hc0
  have HB := Aside0.mk (Below.refl w.heap.size w)
  have H : ((lockfastref14_Places.f k l0).bind fun t155 => (if a1_1 < 1 then (lockfastref14_Cut.j0 k l0 true a1_0 a1_1) else (if a1_0 < 0 then (lockfastref14_Cut.j0 k l0 true a1_0 a1_1) else (if a1_0 > (t155.length : Int) then (lockfastref14_Cut.j0 k l0 true a1_0 a1_1) else (lockfastref14_Cut.j0 k l0 (decide (a1_1 > (wrap64 ((t155.length : Int) - a1_0)))) a1_0 a1_1))))) = some r := h
  clear h
  replace H := Option.bind_eq_some_iff.mp H
  obtain ⟨t155, A30, H⟩ := H
  replace H : (if a1_1 < 1 then (lockfastref14_Cut.j0 k l0 true a1_0 a1_1) else (if a1_0 < 0 then (lockfastref14_Cut.j0 k l0 true a1_0 a1_1) else (if a1_0 > (t155.length : Int) then (lockfastref14_Cut.j0 k l0 true a1_0 a1_1) else (lockfastref14_Cut.j0 k l0 (decide (a1_1 > (wrap64 ((t155.length : Int) - a1_0)))) a1_0 a1_1)))) = some r := H
  have A3 := Aside0.mk A30
  clear A30
  have HC4 := Aside0.mk H
  clear H
  go_enter Try.func16, Try.ntmps16
  go_upto_region 2 with (first | ((with_reducible refine gate_dst (N := 3) rfl ?_); (try (refine gate_guard (by rfl) ?_; dsimp only)); refine box_event ?hg (N := 3) ?hd (cs := #[.int .i64 a1_0, .int .i64 a1_1]) (t := 24) ?hr ?_; (case hd => rfl); (case hg => rfl); (case hr => first | (go_simp; done) | (go_simp; rfl)); intro gb154 hg w5 hbox hb; have n0_ := Aside0.mk (below_step (by repeat (first | (with_reducible first | exact HB.out | apply below_alloc | apply pw_below_drewN | apply below_drew1) | exact HB.out)) hb); have n1_ := Aside0.mk (hbox); have n2_ := Aside0.mk ((by rw [hg]; exact (below_size (by repeat (first | (with_reducible first | exact HB.out | apply below_alloc | apply pw_below_drewN | apply below_drew1) | exact HB.out))) : w.heap.size ≤ gb154)); have n3_ := Aside0.mk ((by rw [hg]; exact (below_size (by repeat (first | (with_reducible first | exact HB.out | apply below_alloc | apply pw_below_drewN | apply below_drew1) | exact HB.out))) : w.heap.size ≤ gb154)); clear HB; have HB := n0_; have BK154 := n1_; have GW154 := n2_; have GE154 := n3_; clear n0_ n1_ n2_ n3_; clear hb hbox hg) | ((with_reducible refine gate_callee (f := 11) rfl ?_); refine goesL_ (some 13) rfl rfl Try.func11 (by kernel_rfl) rfl #[.slice A0 l0.length c0] rfl (by (try simp only [List.map_toArray, List.map_cons, List.map_nil]); first | done | rfl | (simp only [List.length_drop, List.length_take]; rfl)) ?_; (with_reducible refine (lockfastref14_Places.calls k _ _ l0 t155 _ ?side1 ?side2 A3.out).mono ?_); (case side1 => repeat (first | exact (Kd.C_below HR0.out HB.out) | (with_reducible refine Kd.C_alloc ?_ _) | (with_reducible refine Kd.C_drewN ?_ _) | (with_reducible refine Kd.C_drew ?_))); (case side2 => exact HC0.out); rintro e w6 ⟨v156, rfl, ho0, hb⟩; refine ⟨_, rfl, ?_⟩; have n0_ := Aside0.mk (Kd.R_lower ho0 (below_size (by repeat (first | (with_reducible first | exact HB.out | apply below_alloc | apply pw_below_drewN | apply below_drew1 | refine below_set ?_ GE154.out) | exact HB.out)))); have n1_ := Aside0.mk (blk_below (g := gb154) (o := .cells #[.int .i64 a1_0, .int .i64 a1_1] 24 (0, 0)) (by (with_reducible repeat (first | refine blk_drewN ?_ _ | refine blk_drew ?_ | refine blk_alloc ?_ _)); exact BK154.out) hb); have n2_ := Aside0.mk (below_step (by repeat (first | (with_reducible first | exact HB.out | apply below_alloc | apply pw_below_drewN | apply below_drew1 | refine below_set ?_ GE154.out) | exact HB.out)) hb); clear BK154; clear HB; have HO157 := n0_; have BK154 := n1_; have HB := n2_; clear n0_ n1_ n2_; (try clear hb); (try clear hb2); (try clear hk); (try clear hi); (try clear ho0)))
  (try simp only [Act.put, List.setIfInBounds_toArray, List.set_cons_zero, List.set_cons_succ])
  go_cut [38] (fun v38 wc => ∃ (kq : Nat) (x38_3 : Bool), v38 = .bool x38_3 ∧ Aside0 (lockfastref14_Cut.j0 kq l0 x38_3 a1_0 a1_1 = some r) ∧ Aside0 (kq ≤ k) ∧ Aside0 (wc.heap[gb154]? = some (.cells #[.int .i64 a1_0, .int .i64 a1_1] 24 (0, 0))) ∧ Aside0 (Below w.heap.size w wc))
  case first =>
    have H := HC4.out
    clear HC4
    by_cases c7 : a1_1 < 1
    · rw [if_pos c7] at H
      have c7b0 : decide (a1_1 < 1) = true := decide_eq_true c7
      clear c7
      (first | rw [c7b0] | (simp only [i64_w, i32_w]; rw [c7b0]) | skip)
      have H' := Aside0.mk H
      clear H
      have hcz8_0 : w6.cell? ⟨gb154, 0, none⟩ = some (.int .i64 a1_0) := (blk_cell BK154.out 0).trans rfl
      have hcz8_1 : w6.cell? ⟨gb154, 1, none⟩ = some (.int .i64 a1_1) := (blk_cell BK154.out 1).trans rfl
      have hfz8_0 := blk_frozen BK154.out 0
      have hfz8_1 := blk_frozen BK154.out 1
      go_wp2
      go_meet
      case rel => exact ⟨_, (true), (by first | rfl | (simp; done) | (simp [*]; done)), H', ⟨by first | omega | exact Nat.le_refl _⟩, ⟨by (with_reducible repeat (first | refine blk_drewN ?_ _ | refine blk_drew ?_ | refine blk_alloc ?_ _)); exact BK154.out⟩, ⟨by repeat (first | (with_reducible first | exact HB.out | apply below_alloc | apply pw_below_drewN | apply below_drew1 | refine below_set ?_ GE154.out) | exact HB.out)⟩⟩
    · rw [if_neg c7] at H
      have c7b0 : decide (a1_1 < 1) = false := decide_eq_false c7
      clear c7
      (first | rw [c7b0] | (simp only [i64_w, i32_w]; rw [c7b0]) | skip)
      by_cases c9 : a1_0 < 0
      · rw [if_pos c9] at H
        have c9b0 : decide (a1_0 < 0) = true := decide_eq_true c9
        clear c9
        have H' := Aside0.mk H
        clear H
        have hcz10_0 : w6.cell? ⟨gb154, 0, none⟩ = some (.int .i64 a1_0) := (blk_cell BK154.out 0).trans rfl
        have hcz10_1 : w6.cell? ⟨gb154, 1, none⟩ = some (.int .i64 a1_1) := (blk_cell BK154.out 1).trans rfl
        have hfz10_0 := blk_frozen BK154.out 0
        have hfz10_1 := blk_frozen BK154.out 1
        go_wp2
        go_meet
        case rel => exact ⟨_, (true), (by first | rfl | (simp; done) | (simp [*]; done)), H', ⟨by first | omega | exact Nat.le_refl _⟩, ⟨by (with_reducible repeat (first | refine blk_drewN ?_ _ | refine blk_drew ?_ | refine blk_alloc ?_ _)); exact BK154.out⟩, ⟨by repeat (first | (with_reducible first | exact HB.out | apply below_alloc | apply pw_below_drewN | apply below_drew1 | refine below_set ?_ GE154.out) | exact HB.out)⟩⟩
      · rw [if_neg c9] at H
        have c9b0 : decide (a1_0 < 0) = false := decide_eq_false c9
        clear c9
        by_cases c11 : a1_0 > (t155.length : Int)
        · rw [if_pos c11] at H
          have c11b0 : decide ((t155.length : Int) < a1_0) = true := decide_eq_true c11
          clear c11
          have H' := Aside0.mk H
          clear H
          have hcz12_0 : w6.cell? ⟨gb154, 0, none⟩ = some (.int .i64 a1_0) := (blk_cell BK154.out 0).trans rfl
          have hcz12_1 : w6.cell? ⟨gb154, 1, none⟩ = some (.int .i64 a1_1) := (blk_cell BK154.out 1).trans rfl
          have hfz12_0 := blk_frozen BK154.out 0
          have hfz12_1 := blk_frozen BK154.out 1
          obtain ⟨Ao13, co13, eo13⟩ := Kd.R_slice HO157.out
          subst eo13
          go_wp2
          go_meet
          case rel => exact ⟨_, (true), (by first | rfl | (simp; done) | (simp [*]; done)), H', ⟨by first | omega | exact Nat.le_refl _⟩, ⟨by (with_reducible repeat (first | refine blk_drewN ?_ _ | refine blk_drew ?_ | refine blk_alloc ?_ _)); exact BK154.out⟩, ⟨by repeat (first | (with_reducible first | exact HB.out | apply below_alloc | apply pw_below_drewN | apply below_drew1 | refine below_set ?_ GE154.out) | exact HB.out)⟩⟩
        · rw [if_neg c11] at H
          have c11b0 : decide ((t155.length : Int) < a1_0) = false := decide_eq_false c11
          clear c11
          have H' := Aside0.mk H
          clear H
          have hcz14_0 : w6.cell? ⟨gb154, 0, none⟩ = some (.int .i64 a1_0) := (blk_cell BK154.out 0).trans rfl
          have hcz14_1 : w6.cell? ⟨gb154, 1, none⟩ = some (.int .i64 a1_1) := (blk_cell BK154.out 1).trans rfl
          have hfz14_0 := blk_frozen BK154.out 0
          have hfz14_1 := blk_frozen BK154.out 1
          obtain ⟨Ao15, co15, eo15⟩ := Kd.R_slice HO157.out
          subst eo15
          go_wp2
          go_meet
          case rel => exact ⟨_, (decide (a1_1 > (wrap64 ((t155.length : Int) - a1_0)))), (by first | rfl | (simp; done) | (simp [*]; done)), H', ⟨by first | omega | exact Nat.le_refl _⟩, ⟨by (with_reducible repeat (first | refine blk_drewN ?_ _ | refine blk_drew ?_ | refine blk_alloc ?_ _)); exact BK154.out⟩, ⟨by repeat (first | (with_reducible first | exact HB.out | apply below_alloc | apply pw_below_drewN | apply below_drew1 | refine below_set ?_ GE154.out) | exact HB.out)⟩⟩
  case rest =>
    clear HC4
    try clear c1
    try clear p2
    try clear p6
    try clear c7
    try clear c7b0
    try clear c9
    try clear c9b0
    try clear c11
    try clear c11b0
    try clear hcz10_0
    try clear hcz10_1
    try clear hcz12_0
    try clear hcz12_1
    try clear hcz14_0
    try clear hcz14_1
    try clear hcz8_0
    try clear hcz8_1
    try clear hfz10_0
    try clear hfz10_1
    try clear hfz12_0
    try clear hfz12_1
    try clear hfz14_0
    try clear hfz14_1
    try clear hfz8_0
    try clear hfz8_1
    obtain ⟨kq, x38_3, rfl, HA, HJ3, BK154, HB⟩ := hcut
    cases kq with
    | zero => exact absurd HA.out (by simp [lockfastref14_Cut.j0])
    | succ kj3 =>
      have H := HA.out
      clear HA
      simp only [lockfastref14_Cut.j0] at H
      by_cases c16 : x38_3 = true
      · subst c16
        have H1 : (some ([] : List (S24))) = some r := by rw [if_pos rfl] at H; exact H
        clear H
        have H := H1
        clear H1
        obtain rfl := Option.some.inj H
        go_wp2
        go_ret
        exact ⟨_, by first | rfl | (simp [errW_none, errW_some] <;> rfl) | (simp [*, errW_none, errW_some] <;> rfl), by first | exact Kd.R_nil _ _ _ _ _ | exact Kd.N_nil _ _ _ _ _ | exact Kd.V_nil _ _ _ _ _ | exact Kd.Q_nil _ _ _ _ _ | exact Kd.S_nil _ _ _ _ _, by repeat (first | (with_reducible first | exact HB.out | apply below_alloc | apply pw_below_drewN | apply below_drew1 | refine below_set ?_ GE154.out) | exact HB.out)⟩
      · replace c16 := Bool.eq_false_iff.mpr c16
        subst c16
        have H1 : (lockfastref14_Cut.l0 kj3 l0 ([] : List (S24)) 0 0 a1_0 a1_1) = some r := by rw [if_neg (show ¬ (false = true) by decide)] at H; exact H
        clear H
        have H := H1
        clear H1
        have H' := Aside0.mk H
        clear H
        go_wp2
        go_loopg [6, 7, 8] kj3 (fun kq v6 v7 v8 w' => ∃ (x6_2 : List (S24)) (x7_2 : Int) (x8_2 : Int) (x155001_2 : Int), v7 = .int .i64 x7_2 ∧ v8 = .int .i64 x8_2 ∧ Aside0 (lockfastref14_Cut.l0 kq l0 x6_2 x7_2 x8_2 a1_0 x155001_2 = some r) ∧ Aside0 (kq ≤ kj3) ∧ Aside0 (Kd.R k24 24 w' w.heap.size (fun k_ => k_ ≠ gb154) v6 x6_2) ∧ Aside0 (w'.heap[gb154]? = some (.cells #[.int .i64 a1_0, .int .i64 x155001_2] 24 (0, 0))) ∧ Aside0 (Below w.heap.size w w'))
        case atStart => exact ⟨(([] : List (S24))), (0), (0), (a1_1), (by first | rfl | (simp; done) | (simp [*]; done)), (by first | rfl | (simp; done) | (simp [*]; done)), H', ⟨Nat.le_refl _⟩, ⟨by first | exact Kd.R_nil _ _ _ _ _ | exact Kd.N_nil _ _ _ _ _ | exact Kd.V_nil _ _ _ _ _ | exact Kd.Q_nil _ _ _ _ _ | exact Kd.S_nil _ _ _ _ _⟩, ⟨by (with_reducible repeat (first | refine blk_drewN ?_ _ | refine blk_drew ?_ | refine blk_alloc ?_ _)); exact BK154.out⟩, ⟨by repeat (first | (with_reducible first | exact HB.out | apply below_alloc | apply pw_below_drewN | apply below_drew1 | refine below_set ?_ GE154.out) | exact HB.out)⟩⟩
        case round =>
          clear H'
          try clear c1
          try clear p2
          try clear p6
          try clear c7
          try clear c7b0
          try clear c9
          try clear c9b0
          try clear c11
          try clear c11b0
          try clear c16
          try clear hcz10_0
          try clear hcz10_1
          try clear hcz12_0
          try clear hcz12_1
          try clear hcz14_0
          try clear hcz14_1
          try clear hcz8_0
          try clear hcz8_1
          try clear hfz10_0
          try clear hfz10_1
          try clear hfz12_0
          try clear hfz12_1
          try clear hfz14_0
          try clear hfz14_1
          try clear hfz8_0
          try clear hfz8_1
          try clear p2
          try clear p6
          obtain ⟨x6_2, x7_2, x8_2, x155001_2, rfl, rfl, HA, HK2, HO_6, BK154, HB⟩ := hrel
          cases gk with
          | zero => exact absurd HA.out (by simp [lockfastref14_Cut.l0])
          | succ k2 =>
            have H := HA.out
            clear HA
            simp only [lockfastref14_Cut.l0] at H
            by_cases c17 : x8_2 < (l0.length : Int)
            · rw [if_pos c17] at H
              have c17b0 : decide (x8_2 < (l0.length : Int)) = true := decide_eq_true c17
              clear c17
              have H' := Aside0.mk H
              clear H
              go_wp2
              go_loopg [6, 7, 9, 10] k2 (fun kq v6 v7 v9 v10 w' => ∃ (x6_3 : List (S24)) (x7_3 : Int) (x9_3 : Bool) (x10_3 : Int) (x155001_3 : Int), v7 = .int .i64 x7_3 ∧ v9 = .bool x9_3 ∧ v10 = .int .i64 x10_3 ∧ Aside0 (lockfastref14_Cut.l1 kq l0 x6_3 x7_3 x8_2 x9_3 x10_3 a1_0 x155001_3 = some r) ∧ Aside0 (kq ≤ k2) ∧ Aside0 (Kd.R k24 24 w' w.heap.size (fun k_ => k_ ≠ gb154) v6 x6_3) ∧ Aside0 (w'.heap[gb154]? = some (.cells #[.int .i64 a1_0, .int .i64 x155001_3] 24 (0, 0))) ∧ Aside0 (Below w.heap.size w w'))
              case atStart => exact ⟨(x6_2), (x7_2), (false), (0), (x155001_2), (by first | rfl | (simp; done) | (simp [*]; done)), (by first | rfl | (simp; done) | (simp [*]; done)), (by first | rfl | (simp; done) | (simp [*]; done)), H', ⟨Nat.le_refl _⟩, ⟨by (with_reducible repeat (first | apply Kd.R_alloc | apply Kd.R_drewN | apply Kd.R_drew)); exact HO_6.out⟩, ⟨by (with_reducible repeat (first | refine blk_drewN ?_ _ | refine blk_drew ?_ | refine blk_alloc ?_ _)); exact BK154.out⟩, ⟨by repeat (first | (with_reducible first | exact HB.out | apply below_alloc | apply pw_below_drewN | apply below_drew1 | refine below_set ?_ GE154.out) | exact HB.out)⟩⟩
              case round =>
                clear H'
                try clear c1
                try clear p2
                try clear p6
                try clear c7
                try clear c7b0
                try clear c9
                try clear c9b0
                try clear c11
                try clear c11b0
                try clear c16
                try clear c17
                try clear c17b0
                try clear hcz10_0
                try clear hcz10_1
                try clear hcz12_0
                try clear hcz12_1
                try clear hcz14_0
                try clear hcz14_1
                try clear hcz8_0
                try clear hcz8_1
                try clear hfz10_0
                try clear hfz10_1
                try clear hfz12_0
                try clear hfz12_1
                try clear hfz14_0
                try clear hfz14_1
                try clear hfz8_0
                try clear hfz8_1
                try clear p2
                try clear p6
                obtain ⟨x6_3, x7_3, x9_3, x10_3, x155001_3, rfl, rfl, rfl, HA, HK3, HO_6, BK154, HB⟩ := hrel
                cases gk with
                | zero => exact absurd HA.out (by simp [lockfastref14_Cut.l1])
                | succ k3 =>
                  have H := HA.out
                  clear HA
                  simp only [lockfastref14_Cut.l1] at H
                  by_cases c18 : 0 ≤ x8_2
                  · rw [if_pos c18] at H
                    have c18b0 : decide (0 ≤ x8_2) = true := decide_eq_true c18
                    clear c18
                    by_cases c19 : x8_2 < (l0.length : Int)
                    · rw [if_pos c19] at H
                      have c19b0 : decide (x8_2 < (l0.length : Int)) = true := decide_eq_true c19
                      clear c19
                      by_cases c20 : x10_3 < ((rd_T24 l0 x8_2).f1)
                      · rw [if_pos c20] at H
                        have c20b0 : decide (x10_3 < ((rd_T24 l0 x8_2).f1)) = true := decide_eq_true c20
                        clear c20
                        have HC21 := Aside0.mk H
                        clear H
                        have p158 : 0 ≤ (x8_2 : Int) := of_decide_eq_true (by first | (with_reducible assumption) | assumption)
                        have q158 : x8_2 < (l0.length : Int) := of_decide_eq_true (by first | (with_reducible assumption) | assumption)
                        obtain ⟨ad158, e158, hx158_0, hx158_1⟩ := at_T24 HR0.out x8_2 p158 q158
                        cases e158
                        replace hx158_0 := (HB.out.cell (World.block_lt_of_cell? w _ hx158_0)).trans hx158_0
                        replace hx158_1 := (HB.out.cell (World.block_lt_of_cell? w _ hx158_1)).trans hx158_1
                        replace p158 := eq_true p158
                        replace q158 := eq_true q158
                        go_upto_region 13 with (fail)
                        go_cut [11] (fun v11 wc => ∃ (kq : Nat) (x11_20 : Bool), v11 = .bool x11_20 ∧ Aside0 (lockfastref14_Cut.j3 kq l0 x6_3 x7_3 x8_2 x9_3 x10_3 x11_20 a1_0 x155001_3 = some r) ∧ Aside0 (kq ≤ k3) ∧ Aside0 (Kd.R k24 24 wc w.heap.size (fun k_ => k_ ≠ gb154) u6 x6_3) ∧ Aside0 (wc.heap[gb154]? = some (.cells #[.int .i64 a1_0, .int .i64 x155001_3] 24 (0, 0))) ∧ Aside0 (Below w.heap.size w wc))
                        case first =>
                          have H := HC21.out
                          clear HC21
                          by_cases c22 : x7_3 ≥ a1_0
                          · rw [if_pos c22] at H
                            have c22b0 : decide (a1_0 ≤ x7_3) = true := decide_eq_true c22
                            clear c22
                            (first | rw [c22b0] | (simp only [i64_w, i32_w]; rw [c22b0]) | skip)
                            have H' := Aside0.mk H
                            clear H
                            have hcz23_0 : wr.cell? ⟨gb154, 0, none⟩ = some (.int .i64 a1_0) := (blk_cell BK154.out 0).trans rfl
                            have hcz23_1 : wr.cell? ⟨gb154, 1, none⟩ = some (.int .i64 x155001_3) := (blk_cell BK154.out 1).trans rfl
                            have hfz23_0 := blk_frozen BK154.out 0
                            have hfz23_1 := blk_frozen BK154.out 1
                            go_wp2
                            go_meet
                            case rel => exact ⟨_, (decide (x7_3 < (wrap64 (a1_0 + x155001_3)))), (by first | rfl | (simp; done) | (simp [*]; done)), H', ⟨by have := HJ3.out; have := HK2.out; have := HK3.out; first | omega | exact Nat.le_refl _⟩, ⟨by (with_reducible repeat (first | apply Kd.R_alloc | apply Kd.R_drewN | apply Kd.R_drew)); exact HO_6.out⟩, ⟨by (with_reducible repeat (first | refine blk_drewN ?_ _ | refine blk_drew ?_ | refine blk_alloc ?_ _)); exact BK154.out⟩, ⟨by repeat (first | (with_reducible first | exact HB.out | apply below_alloc | apply pw_below_drewN | apply below_drew1 | refine below_set ?_ GE154.out) | exact HB.out)⟩⟩
                          · rw [if_neg c22] at H
                            have c22b0 : decide (a1_0 ≤ x7_3) = false := decide_eq_false c22
                            clear c22
                            (first | rw [c22b0] | (simp only [i64_w, i32_w]; rw [c22b0]) | skip)
                            have H' := Aside0.mk H
                            clear H
                            have hcz24_0 : wr.cell? ⟨gb154, 0, none⟩ = some (.int .i64 a1_0) := (blk_cell BK154.out 0).trans rfl
                            have hcz24_1 : wr.cell? ⟨gb154, 1, none⟩ = some (.int .i64 x155001_3) := (blk_cell BK154.out 1).trans rfl
                            have hfz24_0 := blk_frozen BK154.out 0
                            have hfz24_1 := blk_frozen BK154.out 1
                            go_wp2
                            go_meet
                            case rel => exact ⟨_, (false), (by first | rfl | (simp; done) | (simp [*]; done)), H', ⟨by have := HJ3.out; have := HK2.out; have := HK3.out; first | omega | exact Nat.le_refl _⟩, ⟨by (with_reducible repeat (first | apply Kd.R_alloc | apply Kd.R_drewN | apply Kd.R_drew)); exact HO_6.out⟩, ⟨by (with_reducible repeat (first | refine blk_drewN ?_ _ | refine blk_drew ?_ | refine blk_alloc ?_ _)); exact BK154.out⟩, ⟨by repeat (first | (with_reducible first | exact HB.out | apply below_alloc | apply pw_below_drewN | apply below_drew1 | refine below_set ?_ GE154.out) | exact HB.out)⟩⟩
                        case rest =>
                          clear HC21
                          try clear c1
                          try clear p1
                          try clear q1
                          try clear hx1
                          try clear c2
                          try clear p2
                          try clear p6
                          try clear c7
                          try clear c7b0
                          try clear c9
                          try clear c9b0
                          try clear c11
                          try clear c11b0
                          try clear p15
                          try clear q15
                          try clear hx15
                          try clear c16
                          try clear c17
                          try clear c17b0
                          try clear c18
                          try clear c18b0
                          try clear c19
                          try clear c19b0
                          try clear c20
                          try clear c20b0
                          try clear c22
                          try clear c22b0
                          try clear hcz10_0
                          try clear hcz10_1
                          try clear hcz12_0
                          try clear hcz12_1
                          try clear hcz14_0
                          try clear hcz14_1
                          try clear hcz23_0
                          try clear hcz23_1
                          try clear hcz24_0
                          try clear hcz24_1
                          try clear hcz8_0
                          try clear hcz8_1
                          try clear hfz10_0
                          try clear hfz10_1
                          try clear hfz12_0
                          try clear hfz12_1
                          try clear hfz14_0
                          try clear hfz14_1
                          try clear hfz23_0
                          try clear hfz23_1
                          try clear hfz24_0
                          try clear hfz24_1
                          try clear hfz8_0
                          try clear hfz8_1
                          try clear hx158_0
                          try clear hx158_1
                          try clear p158
                          try clear p2
                          try clear p6
                          try clear q158
                          obtain ⟨kq, x11_20, rfl, HA, HJ20, HO_6, BK154, HB⟩ := hcut
                          cases kq with
                          | zero => exact absurd HA.out (by simp [lockfastref14_Cut.j3])
                          | succ kj20 =>
                            have H := HA.out
                            clear HA
                            simp only [lockfastref14_Cut.j3] at H
                            have HC25 := Aside0.mk H
                            clear H
                            go_upto_region 14 with (fail)
                            go_cut [70] (fun v70 wc => ∃ (kq : Nat) (x70_24 : Bool), v70 = .bool x70_24 ∧ Aside0 (lockfastref14_Cut.j4 kq l0 x6_3 x7_3 x8_2 x9_3 x10_3 x11_20 x70_24 a1_0 x155001_3 = some r) ∧ Aside0 (kq ≤ kj20) ∧ Aside0 (Kd.R k24 24 wc w.heap.size (fun k_ => k_ ≠ gb154) u6 x6_3) ∧ Aside0 (wc.heap[gb154]? = some (.cells #[.int .i64 a1_0, .int .i64 x155001_3] 24 (0, 0))) ∧ Aside0 (Below w.heap.size w wc))
                            case first =>
                              have H := HC25.out
                              clear HC25
                              by_cases c26 : x11_20 = true
                              · subst c26
                                have H1 : (lockfastref14_Cut.j4 kj20 l0 x6_3 x7_3 x8_2 x9_3 x10_3 true x9_3 a1_0 x155001_3) = some r := by rw [if_pos rfl] at H; exact H
                                clear H
                                have H := H1
                                clear H1
                                have H' := Aside0.mk H
                                clear H
                                go_wp2
                                go_meet
                                case rel => exact ⟨_, (x9_3), (by first | rfl | (simp; done) | (simp [*]; done)), H', ⟨by have := HJ3.out; have := HK2.out; have := HK3.out; have := HJ20.out; first | omega | exact Nat.le_refl _⟩, ⟨by (with_reducible repeat (first | apply Kd.R_alloc | apply Kd.R_drewN | apply Kd.R_drew)); exact HO_6.out⟩, ⟨by (with_reducible repeat (first | refine blk_drewN ?_ _ | refine blk_drew ?_ | refine blk_alloc ?_ _)); exact BK154.out⟩, ⟨by repeat (first | (with_reducible first | exact HB.out | apply below_alloc | apply pw_below_drewN | apply below_drew1 | refine below_set ?_ GE154.out) | exact HB.out)⟩⟩
                              · replace c26 := Bool.eq_false_iff.mpr c26
                                subst c26
                                have H1 : (lockfastref14_Cut.j4 kj20 l0 x6_3 x7_3 x8_2 x9_3 x10_3 false false a1_0 x155001_3) = some r := by rw [if_neg (show ¬ (false = true) by decide)] at H; exact H
                                clear H
                                have H := H1
                                clear H1
                                have H' := Aside0.mk H
                                clear H
                                go_wp2
                                go_meet
                                case rel => exact ⟨_, (false), (by first | rfl | (simp; done) | (simp [*]; done)), H', ⟨by have := HJ3.out; have := HK2.out; have := HK3.out; have := HJ20.out; first | omega | exact Nat.le_refl _⟩, ⟨by (with_reducible repeat (first | apply Kd.R_alloc | apply Kd.R_drewN | apply Kd.R_drew)); exact HO_6.out⟩, ⟨by (with_reducible repeat (first | refine blk_drewN ?_ _ | refine blk_drew ?_ | refine blk_alloc ?_ _)); exact BK154.out⟩, ⟨by repeat (first | (with_reducible first | exact HB.out | apply below_alloc | apply pw_below_drewN | apply below_drew1 | refine below_set ?_ GE154.out) | exact HB.out)⟩⟩
                            case rest =>
                              clear HC25
                              try clear c1
                              try clear p1
                              try clear q1
                              try clear hx1
                              try clear c2
                              try clear p2
                              try clear p6
                              try clear c7
                              try clear c7b0
                              try clear c9
                              try clear c9b0
                              try clear c11
                              try clear c11b0
                              try clear p15
                              try clear q15
                              try clear hx15
                              try clear c16
                              try clear c17
                              try clear c17b0
                              try clear c18
                              try clear c18b0
                              try clear c19
                              try clear c19b0
                              try clear c20
                              try clear c20b0
                              try clear c22
                              try clear c22b0
                              try clear c26
                              try clear hcz10_0
                              try clear hcz10_1
                              try clear hcz12_0
                              try clear hcz12_1
                              try clear hcz14_0
                              try clear hcz14_1
                              try clear hcz23_0
                              try clear hcz23_1
                              try clear hcz24_0
                              try clear hcz24_1
                              try clear hcz8_0
                              try clear hcz8_1
                              try clear hfz10_0
                              try clear hfz10_1
                              try clear hfz12_0
                              try clear hfz12_1
                              try clear hfz14_0
                              try clear hfz14_1
                              try clear hfz23_0
                              try clear hfz23_1
                              try clear hfz24_0
                              try clear hfz24_1
                              try clear hfz8_0
                              try clear hfz8_1
                              try clear hx158_0
                              try clear hx158_1
                              try clear p1
                              try clear p15
                              try clear p158
                              try clear p2
                              try clear p6
                              try clear q1
                              try clear q15
                              try clear q158
                              obtain ⟨kq, x70_24, rfl, HA, HJ24, HO_6, BK154, HB⟩ := hcut
                              cases kq with
                              | zero => exact absurd HA.out (by simp [lockfastref14_Cut.j4])
                              | succ kj24 =>
                                have H := HA.out
                                clear HA
                                simp only [lockfastref14_Cut.j4] at H
                                by_cases c27 : x70_24 = true
                                · subst c27
                                  have H1 : (if 0 ≤ (wrap64 ((x6_3.length : Int) - 1)) then (if (wrap64 ((x6_3.length : Int) - 1)) < (x6_3.length : Int) then ((some (x6_3.set ((wrap64 ((x6_3.length : Int) - 1)) : Int).toNat (⟨(rd_T24 x6_3 (wrap64 ((x6_3.length : Int) - 1))).f0, wrap64 (((rd_T24 x6_3 (wrap64 ((x6_3.length : Int) - 1))).f1) + 1)⟩ : S24) : List (S24))).bind fun y160 => (if x11_20 = true then (if x9_3 = true then (lockfastref14_Cut.l1 kj24 l0 y160 (wrap64 (x7_3 + 1)) x8_2 x11_20 (wrap64 (x10_3 + 1)) a1_0 x155001_3) else (if 0 ≤ x8_2 then (if x8_2 < (l0.length : Int) then (if y160.length < 8796093022208 then (lockfastref14_Cut.l1 kj24 l0 (y160 ++ [(⟨wrap64 (((rd_T24 l0 x8_2).f0) + x10_3), 1⟩ : S24)]) (wrap64 (x7_3 + 1)) x8_2 x11_20 (wrap64 (x10_3 + 1)) a1_0 x155001_3) else (none)) else (none)) else (none))) else (lockfastref14_Cut.l1 kj24 l0 y160 (wrap64 (x7_3 + 1)) x8_2 x11_20 (wrap64 (x10_3 + 1)) a1_0 x155001_3))) else (none)) else (none)) = some r := by rw [if_pos rfl] at H; exact H
                                  clear H
                                  have H := H1
                                  clear H1
                                  obtain ⟨ji28, hji28⟩ : ∃ j_ : Int, (wrap64 ((x6_3.length : Int) - 1)) = j_ := ⟨_, rfl⟩
                                  replace H : (if 0 ≤ (ji28) then (if (ji28) < (x6_3.length : Int) then ((some (x6_3.set ((ji28) : Int).toNat (⟨(rd_T24 x6_3 (ji28)).f0, wrap64 (((rd_T24 x6_3 (ji28)).f1) + 1)⟩ : S24) : List (S24))).bind fun y160 => (if x11_20 = true then (if x9_3 = true then (lockfastref14_Cut.l1 kj24 l0 y160 (wrap64 (x7_3 + 1)) x8_2 x11_20 (wrap64 (x10_3 + 1)) a1_0 x155001_3) else (if 0 ≤ x8_2 then (if x8_2 < (l0.length : Int) then (if y160.length < 8796093022208 then (lockfastref14_Cut.l1 kj24 l0 (y160 ++ [(⟨wrap64 (((rd_T24 l0 x8_2).f0) + x10_3), 1⟩ : S24)]) (wrap64 (x7_3 + 1)) x8_2 x11_20 (wrap64 (x10_3 + 1)) a1_0 x155001_3) else (none)) else (none)) else (none))) else (lockfastref14_Cut.l1 kj24 l0 y160 (wrap64 (x7_3 + 1)) x8_2 x11_20 (wrap64 (x10_3 + 1)) a1_0 x155001_3))) else (none)) else (none)) = some r := by first | (rw [hji28] at H; exact H) | (simp only [hji28] at H ⊢; exact H)
                                  have hji28w : (IntKind.i64.wrap ((x6_3.length : Int) - 1)) = ji28 := (i64_w _).trans hji28
                                  by_cases c29 : 0 ≤ (ji28)
                                  · rw [if_pos c29] at H
                                    have c29b0 : decide (0 ≤ (ji28)) = true := decide_eq_true c29
                                    clear c29
                                    by_cases c30 : (ji28) < (x6_3.length : Int)
                                    · rw [if_pos c30] at H
                                      have c30b0 : decide ((ji28) < (x6_3.length : Int)) = true := decide_eq_true c30
                                      clear c30
                                      obtain ⟨y160, hy160⟩ : ∃ y_ : List (S24), y_ = (x6_3.set ((ji28) : Int).toNat (⟨(rd_T24 x6_3 (ji28)).f0, wrap64 (((rd_T24 x6_3 (ji28)).f1) + 1)⟩ : S24)) := ⟨_, rfl⟩
                                      replace H : (if x11_20 = true then (if x9_3 = true then (lockfastref14_Cut.l1 kj24 l0 y160 (wrap64 (x7_3 + 1)) x8_2 x11_20 (wrap64 (x10_3 + 1)) a1_0 x155001_3) else (if 0 ≤ x8_2 then (if x8_2 < (l0.length : Int) then (if y160.length < 8796093022208 then (lockfastref14_Cut.l1 kj24 l0 (y160 ++ [(⟨wrap64 (((rd_T24 l0 x8_2).f0) + x10_3), 1⟩ : S24)]) (wrap64 (x7_3 + 1)) x8_2 x11_20 (wrap64 (x10_3 + 1)) a1_0 x155001_3) else (none)) else (none)) else (none))) else (lockfastref14_Cut.l1 kj24 l0 y160 (wrap64 (x7_3 + 1)) x8_2 x11_20 (wrap64 (x10_3 + 1)) a1_0 x155001_3)) = some r := by first | (rw [hy160]; with_reducible exact H) | (have H2_ := (Option.bind_some _ _).symm.trans H; rw [hy160]; with_reducible exact H2_) | (have H2_ := (Option.bind_some _ _).symm.trans H; with_reducible exact H2_) | with_reducible exact H | (rw [hy160]; exact H) | exact H
                                      have Ny160 := Aside0.mk hy160
                                      clear hy160
                                      by_cases c32 : x11_20 = true
                                      · subst c32
                                        have H1 : (if x9_3 = true then (lockfastref14_Cut.l1 kj24 l0 y160 (wrap64 (x7_3 + 1)) x8_2 true (wrap64 (x10_3 + 1)) a1_0 x155001_3) else (if 0 ≤ x8_2 then (if x8_2 < (l0.length : Int) then (if y160.length < 8796093022208 then (lockfastref14_Cut.l1 kj24 l0 (y160 ++ [(⟨wrap64 (((rd_T24 l0 x8_2).f0) + x10_3), 1⟩ : S24)]) (wrap64 (x7_3 + 1)) x8_2 true (wrap64 (x10_3 + 1)) a1_0 x155001_3) else (none)) else (none)) else (none))) = some r := by rw [if_pos rfl] at H; exact H
                                        clear H
                                        have H := H1
                                        clear H1
                                        by_cases c33 : x9_3 = true
                                        · subst c33
                                          have H1 : (lockfastref14_Cut.l1 kj24 l0 y160 (wrap64 (x7_3 + 1)) x8_2 true (wrap64 (x10_3 + 1)) a1_0 x155001_3) = some r := by rw [if_pos rfl] at H; exact H
                                          clear H
                                          have H := H1
                                          clear H1
                                          have H' := Aside0.mk H
                                          clear H
                                          obtain ⟨Ao34, co34, eo34⟩ := Kd.R_slice HO_6.out
                                          subst eo34
                                          have p159 : 0 ≤ ((ji28) : Int) := of_decide_eq_true (by first | (with_reducible assumption) | assumption)
                                          have q159 : (ji28) < (x6_3.length : Int) := of_decide_eq_true (by first | (with_reducible assumption) | assumption)
                                          obtain ⟨ad159, e159, hx159_0, hx159_1⟩ := at_T24 (Kd.R_reads' HO_6.out).2.2 (ji28) p159 q159
                                          cases e159
                                          replace p159 := eq_true p159
                                          replace q159 := eq_true q159
                                          have p31 : 0 ≤ ((ji28) : Int) := of_decide_eq_true (by first | (with_reducible assumption) | assumption)
                                          have q31 : ((ji28) : Int) < ((x6_3.length : Int) : Int) := of_decide_eq_true (by first | (with_reducible assumption) | assumption)
                                          obtain ⟨go31, co31, eo31, gb31, gl31, cl31, HG31⟩ := Kd.R_form HO_6.out (by omega)
                                          (first | cases eo31 | (injection eo31 with ea_ en_ ec_; (first | subst ea_ | (injection ea_ with ea_; subst ea_)); subst ec_; clear en_))
                                          have GB31 := Aside0.mk gb31
                                          have GG31 := Aside0.mk HG31
                                          clear gb31 gl31 HG31
                                          (first | simp only [add_plain] at hx159_0 | skip)
                                          (first | simp only [add_plain] at hx159_1 | skip)
                                          obtain ⟨ce31, hcl31, hM31, hcc31, hfr31⟩ := Kd.R_elem HO_6.out z24 ((ji28) : Int) p31 q31
                                          obtain rfl := k24_openM hM31
                                          have hx31_0 : wc.cell? ⟨go31, ((ji28) : Int).toNat * 2, none⟩ = some (.int .i64 ((rd_T24 x6_3 (ji28)).f0)) := hcc31 0 _ rfl
                                          have hx31_1 : wc.cell? ⟨go31, ((ji28) : Int).toNat * 2 + 1, none⟩ = some (.int .i64 ((rd_T24 x6_3 (ji28)).f1)) := hcc31 1 _ rfl
                                          have hf31_0 : wc.frozen? ⟨go31, ((ji28) : Int).toNat * 2, none⟩ = false := hfr31 0
                                          have hf31_1 : wc.frozen? ⟨go31, ((ji28) : Int).toNat * 2 + 1, none⟩ = false := hfr31 1
                                          clear hcl31 hcc31 hfr31 hM31
                                          replace p31 := eq_true p31
                                          replace q31 := eq_true q31
                                          have HX35 := Aside0.mk (show Kd.R k24 24 wc w.heap.size (fun k_ => k_ ≠ gb154) (.slice (some ⟨go31, 0, none⟩) x6_3.length co34) x6_3 from (by (with_reducible repeat (first | apply Kd.R_alloc | apply Kd.R_drewN | apply Kd.R_drew)); exact HO_6.out))
                                          obtain ⟨ce35, hcl35, hM35, hcc35, hfr35⟩ := Kd.R_elem HX35.out z24 ((ji28) : Int) (of_decide_eq_true (by first | (with_reducible assumption) | assumption)) (by have h_ : ((ji28) : Int) < ((x6_3.length : Int) : Int) := of_decide_eq_true (by first | (with_reducible assumption) | assumption); first | exact h_ | (have e_ := (Kd.R_reads' HO_6.out).1; omega) | simpa using h_)
                                          obtain rfl := k24_openM hM35
                                          have HP35 := Kd.R_seg HX35.out ((ji28) : Int) (of_decide_eq_true (by first | (with_reducible assumption) | assumption)) (by have h_ : ((ji28) : Int) < ((x6_3.length : Int) : Int) := of_decide_eq_true (by first | (with_reducible assumption) | assumption); first | exact h_ | (have e_ := (Kd.R_reads' HO_6.out).1; omega) | simpa using h_) (seg := [.int .i64 (wrap64 (((rd_T24 x6_3 (ji28)).f1) + 1))]) (j := 1) hcl35 hcc35 (show 2 ≤ 2 from by decide) (x' := (⟨(rd_T24 x6_3 (ji28)).f0, wrap64 (((rd_T24 x6_3 (ji28)).f1) + 1)⟩ : S24)) (k24_mkM _ _ _ (⟨(rd_T24 x6_3 (ji28)).f0, wrap64 (((rd_T24 x6_3 (ji28)).f1) + 1)⟩ : S24) ) (fun _ hk => hk)
                                          have hx35_1 := hcc35 1 _ rfl
                                          (try simp only [show (k24).sz = 2 from rfl, Nat.mul_one, Nat.add_zero] at hx35_1)
                                          have hf35_1 := hfr35 1
                                          (try simp only [show (k24).sz = 2 from rfl, Nat.mul_one, Nat.add_zero] at hf35_1)
                                          clear hcl35 hcc35 hfr35 hM35
                                          go_wp2_with (first | ((with_reducible refine gate_store (t := 3) (p := 84) rfl ?_); refine store_event (t := 3) (p := 84) (v := ?vo_w36) (w1 := (wc.setCell ⟨go31, ((ji28) : Int).toNat * 2 + 1, none⟩ (.int .i64 (wrap64 (((rd_T24 x6_3 (ji28)).f1) + 1))))) ?hg ?ho ?hn ?hr ?_; (case ho => rfl); (case hg => rfl); (case hn => rfl); (case hr => first | (go_simp; done) | (go_simp; rfl)); intro w36 hw; have hg : wc.grownBy w36 (some go31) := (by rw [hw]; exact HP35.2); have hp_ : Kd.R k24 24 w36 w.heap.size (fun k_ => k_ ≠ gb154) (.slice (some ⟨go31, 0, none⟩) x6_3.length co34) y160 := (by rw [hw, Ny160.out]; exact HP35.1); clear HP35; have n0_ := Aside0.mk (hp_); have n1_ := Aside0.mk (blk_grown (g := gb154) (o := .cells #[.int .i64 a1_0, .int .i64 x155001_3] 24 (0, 0)) (by (with_reducible repeat (first | refine blk_drewN ?_ _ | refine blk_drew ?_ | refine blk_alloc ?_ _)); exact BK154.out) hg (Kd.R_away HO_6.out (fun _ hk => hk))); have n2_ := Aside0.mk ((by rw [hw]; exact below_set (HB.out) GB31.out : Below w.heap.size w w36)); clear HO_6; clear BK154; clear HB; have HO_6 := n0_; have BK154 := n1_; have HB := n2_; clear n0_ n1_ n2_; clear hg hw hp_))
                                          go_roundg kj24
                                          case measure => have := HJ3.out; have := HK2.out; have := HK3.out; have := HJ20.out; have := HJ24.out; omega
                                          case rel => exact ⟨(y160), (wrap64 (x7_3 + 1)), (true), (wrap64 (x10_3 + 1)), (x155001_3), (by first | rfl | (simp; done) | (simp [*]; done)), (by first | rfl | (simp; done) | (simp [*]; done)), (by first | rfl | (simp; done) | (simp [*]; done)), H', ⟨by have := HJ3.out; have := HK2.out; have := HK3.out; have := HJ20.out; have := HJ24.out; omega⟩, ⟨by (with_reducible repeat (first | apply Kd.R_alloc | apply Kd.R_drewN | apply Kd.R_drew)); exact HO_6.out⟩, ⟨by (with_reducible repeat (first | refine blk_drewN ?_ _ | refine blk_drew ?_ | refine blk_alloc ?_ _)); exact BK154.out⟩, ⟨by repeat (first | (with_reducible first | exact HB.out | apply below_alloc | apply pw_below_drewN | apply below_drew1 | refine below_set ?_ GE154.out) | exact HB.out)⟩⟩
                                        · replace c33 := Bool.eq_false_iff.mpr c33
                                          subst c33
                                          have H1 : (if 0 ≤ x8_2 then (if x8_2 < (l0.length : Int) then (if y160.length < 8796093022208 then (lockfastref14_Cut.l1 kj24 l0 (y160 ++ [(⟨wrap64 (((rd_T24 l0 x8_2).f0) + x10_3), 1⟩ : S24)]) (wrap64 (x7_3 + 1)) x8_2 true (wrap64 (x10_3 + 1)) a1_0 x155001_3) else (none)) else (none)) else (none)) = some r := by rw [if_neg (show ¬ (false = true) by decide)] at H; exact H
                                          clear H
                                          have H := H1
                                          clear H1
                                          by_cases c37 : 0 ≤ x8_2
                                          · rw [if_pos c37] at H
                                            have c37b0 : decide (0 ≤ x8_2) = true := decide_eq_true c37
                                            clear c37
                                            by_cases c38 : x8_2 < (l0.length : Int)
                                            · rw [if_pos c38] at H
                                              have c38b0 : decide (x8_2 < (l0.length : Int)) = true := decide_eq_true c38
                                              clear c38
                                              by_cases c39 : y160.length < 8796093022208
                                              · rw [if_pos c39] at H
                                                have LMc39 := Aside0.mk c39
                                                clear c39
                                                obtain ⟨y162, hy162⟩ : ∃ y_ : List (S24), y_ = (y160 ++ [(⟨wrap64 (((rd_T24 l0 x8_2).f0) + x10_3), 1⟩ : S24)]) := ⟨_, rfl⟩
                                                replace H : (lockfastref14_Cut.l1 kj24 l0 y162 (wrap64 (x7_3 + 1)) x8_2 true (wrap64 (x10_3 + 1)) a1_0 x155001_3) = some r := by first | (rw [hy162]; with_reducible exact H) | (have H2_ := (Option.bind_some _ _).symm.trans H; rw [hy162]; with_reducible exact H2_) | (have H2_ := (Option.bind_some _ _).symm.trans H; with_reducible exact H2_) | with_reducible exact H | (rw [hy162]; exact H) | exact H
                                                have Ny162 := Aside0.mk hy162
                                                clear hy162
                                                have H' := Aside0.mk H
                                                clear H
                                                obtain ⟨Ao40, co40, eo40⟩ := Kd.R_slice HO_6.out
                                                subst eo40
                                                have p159 : 0 ≤ ((ji28) : Int) := of_decide_eq_true (by first | (with_reducible assumption) | assumption)
                                                have q159 : (ji28) < (x6_3.length : Int) := of_decide_eq_true (by first | (with_reducible assumption) | assumption)
                                                obtain ⟨ad159, e159, hx159_0, hx159_1⟩ := at_T24 (Kd.R_reads' HO_6.out).2.2 (ji28) p159 q159
                                                cases e159
                                                replace p159 := eq_true p159
                                                replace q159 := eq_true q159
                                                have p31 : 0 ≤ ((ji28) : Int) := of_decide_eq_true (by first | (with_reducible assumption) | assumption)
                                                have q31 : ((ji28) : Int) < ((x6_3.length : Int) : Int) := of_decide_eq_true (by first | (with_reducible assumption) | assumption)
                                                obtain ⟨go31, co31, eo31, gb31, gl31, cl31, HG31⟩ := Kd.R_form HO_6.out (by omega)
                                                (first | cases eo31 | (injection eo31 with ea_ en_ ec_; (first | subst ea_ | (injection ea_ with ea_; subst ea_)); subst ec_; clear en_))
                                                have GB31 := Aside0.mk gb31
                                                have GG31 := Aside0.mk HG31
                                                clear gb31 gl31 HG31
                                                (first | simp only [add_plain] at hx159_0 | skip)
                                                (first | simp only [add_plain] at hx159_1 | skip)
                                                obtain ⟨ce31, hcl31, hM31, hcc31, hfr31⟩ := Kd.R_elem HO_6.out z24 ((ji28) : Int) p31 q31
                                                obtain rfl := k24_openM hM31
                                                have hx31_0 : wc.cell? ⟨go31, ((ji28) : Int).toNat * 2, none⟩ = some (.int .i64 ((rd_T24 x6_3 (ji28)).f0)) := hcc31 0 _ rfl
                                                have hx31_1 : wc.cell? ⟨go31, ((ji28) : Int).toNat * 2 + 1, none⟩ = some (.int .i64 ((rd_T24 x6_3 (ji28)).f1)) := hcc31 1 _ rfl
                                                have hf31_0 : wc.frozen? ⟨go31, ((ji28) : Int).toNat * 2, none⟩ = false := hfr31 0
                                                have hf31_1 : wc.frozen? ⟨go31, ((ji28) : Int).toNat * 2 + 1, none⟩ = false := hfr31 1
                                                clear hcl31 hcc31 hfr31 hM31
                                                replace p31 := eq_true p31
                                                replace q31 := eq_true q31
                                                have HX41 := Aside0.mk (show Kd.R k24 24 wc w.heap.size (fun k_ => k_ ≠ gb154) (.slice (some ⟨go31, 0, none⟩) x6_3.length co40) x6_3 from (by (with_reducible repeat (first | apply Kd.R_alloc | apply Kd.R_drewN | apply Kd.R_drew)); exact HO_6.out))
                                                obtain ⟨ce41, hcl41, hM41, hcc41, hfr41⟩ := Kd.R_elem HX41.out z24 ((ji28) : Int) (of_decide_eq_true (by first | (with_reducible assumption) | assumption)) (by have h_ : ((ji28) : Int) < ((x6_3.length : Int) : Int) := of_decide_eq_true (by first | (with_reducible assumption) | assumption); first | exact h_ | (have e_ := (Kd.R_reads' HO_6.out).1; omega) | simpa using h_)
                                                obtain rfl := k24_openM hM41
                                                have HP41 := Kd.R_seg HX41.out ((ji28) : Int) (of_decide_eq_true (by first | (with_reducible assumption) | assumption)) (by have h_ : ((ji28) : Int) < ((x6_3.length : Int) : Int) := of_decide_eq_true (by first | (with_reducible assumption) | assumption); first | exact h_ | (have e_ := (Kd.R_reads' HO_6.out).1; omega) | simpa using h_) (seg := [.int .i64 (wrap64 (((rd_T24 x6_3 (ji28)).f1) + 1))]) (j := 1) hcl41 hcc41 (show 2 ≤ 2 from by decide) (x' := (⟨(rd_T24 x6_3 (ji28)).f0, wrap64 (((rd_T24 x6_3 (ji28)).f1) + 1)⟩ : S24)) (k24_mkM _ _ _ (⟨(rd_T24 x6_3 (ji28)).f0, wrap64 (((rd_T24 x6_3 (ji28)).f1) + 1)⟩ : S24) ) (fun _ hk => hk)
                                                have hx41_1 := hcc41 1 _ rfl
                                                (try simp only [show (k24).sz = 2 from rfl, Nat.mul_one, Nat.add_zero] at hx41_1)
                                                have hf41_1 := hfr41 1
                                                (try simp only [show (k24).sz = 2 from rfl, Nat.mul_one, Nat.add_zero] at hf41_1)
                                                clear hcl41 hcc41 hfr41 hM41
                                                go_wp2_with (first | ((with_reducible refine gate_store (t := 3) (p := 84) rfl ?_); refine store_event (t := 3) (p := 84) (v := ?vo_w42) (w1 := (wc.setCell ⟨go31, ((ji28) : Int).toNat * 2 + 1, none⟩ (.int .i64 (wrap64 (((rd_T24 x6_3 (ji28)).f1) + 1))))) ?hg ?ho ?hn ?hr ?_; (case ho => rfl); (case hg => rfl); (case hn => rfl); (case hr => first | (go_simp; done) | (go_simp; rfl)); intro w42 hw; have hg : wc.grownBy w42 (some go31) := (by rw [hw]; exact HP41.2); have hp_ : Kd.R k24 24 w42 w.heap.size (fun k_ => k_ ≠ gb154) (.slice (some ⟨go31, 0, none⟩) x6_3.length co40) y160 := (by rw [hw, Ny160.out]; exact HP41.1); clear HP41; have n0_ := Aside0.mk (hp_); have n1_ := Aside0.mk (blk_grown (g := gb154) (o := .cells #[.int .i64 a1_0, .int .i64 x155001_3] 24 (0, 0)) (by (with_reducible repeat (first | refine blk_drewN ?_ _ | refine blk_drew ?_ | refine blk_alloc ?_ _)); exact BK154.out) hg (Kd.R_away HO_6.out (fun _ hk => hk))); have n2_ := Aside0.mk ((by rw [hw]; exact below_set (HB.out) GB31.out : Below w.heap.size w w42)); clear HO_6; clear BK154; clear HB; have HO_6 := n0_; have BK154 := n1_; have HB := n2_; clear n0_ n1_ n2_; clear hg hw hp_; have p161 : 0 ≤ (x8_2 : Int) := of_decide_eq_true (by first | (with_reducible assumption) | assumption); have q161 : x8_2 < (l0.length : Int) := of_decide_eq_true (by first | (with_reducible assumption) | assumption); obtain ⟨ad161, e161, hx161_0, hx161_1⟩ := at_T24 HR0.out x8_2 p161 q161; obtain rfl : ad158 = ad161 := (by injection e161); replace hx161_0 := (HB.out.cell (World.block_lt_of_cell? w _ hx161_0)).trans hx161_0; replace hx161_1 := (HB.out.cell (World.block_lt_of_cell? w _ hx161_1)).trans hx161_1; replace p161 := eq_true p161; replace q161 := eq_true q161) | ((with_reducible refine gate_builtin (b := .append) (xs := #[.tmp 90, .tmp 99]) rfl ?_); (try (refine gate_guard (by rfl) ?_; dsimp only)); at_builtin; refine Kd.R_append k24 (w0 := w) w.heap.size rfl (.tmp 90) (.tmp 99) 22 24 (.agg #[(.int .i64 0), (.int .i64 0)]) 16 rfl Try.underlying22 info24 rfl (by decide) (by omega) (.slice (some ⟨go31, 0, none⟩) x6_3.length co40) y160 (⟨wrap64 (((rd_T24 l0 x8_2).f0) + x10_3), 1⟩ : S24) [.int .i64 (wrap64 (((rd_T24 l0 x8_2).f0) + x10_3)), .int .i64 1] (fun k_ => k_ ≠ gb154) (fun _ => False) rfl rfl ?aP (fun _ hk => hk.elim) ?aF ?aO ?aB ?aS ?aL ?_; (case aP => exact k24_mkM _ _ _ (⟨wrap64 (((rd_T24 l0 x8_2).f0) + x10_3), 1⟩ : S24)); (case aB => exact (by repeat (first | (with_reducible first | exact HB.out | apply below_alloc | apply pw_below_drewN | apply below_drew1 | refine below_set ?_ GE154.out) | exact HB.out))); (case aF => exact (fun k_ hk => Kd.freshB (g := gb154) (o := .cells #[.int .i64 a1_0, .int .i64 x155001_3] 24 (0, 0)) (by (with_reducible repeat (first | refine blk_drewN ?_ _ | refine blk_drew ?_ | refine blk_alloc ?_ _)); exact BK154.out) k_ hk)); (case aO => exact (by (with_reducible repeat (first | apply Kd.R_alloc | apply Kd.R_drewN | apply Kd.R_drew)); exact HO_6.out)); (case aS => exact (below_size (by repeat (first | (with_reducible first | exact HB.out | apply below_alloc | apply pw_below_drewN | apply below_drew1 | refine below_set ?_ GE154.out) | exact HB.out)))); (case aL => have := LMc39.out; omega); intro v163 w43 ho hb hg hat; rw [← Ny162.out] at ho; have n0_ := Aside0.mk (blk_grown (g := gb154) (o := .cells #[.int .i64 a1_0, .int .i64 x155001_3] 24 (0, 0)) (by (with_reducible repeat (first | refine blk_drewN ?_ _ | refine blk_drew ?_ | refine blk_alloc ?_ _)); exact BK154.out) hg (Kd.R_away HO_6.out (fun _ hk => hk))); have n1_ := Aside0.mk (hb); have n2_ := Aside0.mk (ho); clear BK154; clear HB; clear HO_6; have BK154 := n0_; have HB := n1_; have HO164 := n2_; clear n0_ n1_ n2_; clear ho hb hg hat))
                                                go_roundg kj24
                                                case measure => have := HJ3.out; have := HK2.out; have := HK3.out; have := HJ20.out; have := HJ24.out; omega
                                                case rel => exact ⟨(y162), (wrap64 (x7_3 + 1)), (true), (wrap64 (x10_3 + 1)), (x155001_3), (by first | rfl | (simp; done) | (simp [*]; done)), (by first | rfl | (simp; done) | (simp [*]; done)), (by first | rfl | (simp; done) | (simp [*]; done)), H', ⟨by have := HJ3.out; have := HK2.out; have := HK3.out; have := HJ20.out; have := HJ24.out; omega⟩, ⟨by (with_reducible repeat (first | apply Kd.R_alloc | apply Kd.R_drewN | apply Kd.R_drew)); exact HO164.out⟩, ⟨by (with_reducible repeat (first | refine blk_drewN ?_ _ | refine blk_drew ?_ | refine blk_alloc ?_ _)); exact BK154.out⟩, ⟨by repeat (first | (with_reducible first | exact HB.out | apply below_alloc | apply pw_below_drewN | apply below_drew1 | refine below_set ?_ GE154.out) | exact HB.out)⟩⟩
                                              · rw [if_neg c39] at H
                                                exact absurd H (by simp)
                                            · rw [if_neg c38] at H
                                              exact absurd H (by simp)
                                          · rw [if_neg c37] at H
                                            exact absurd H (by simp)
                                      · replace c32 := Bool.eq_false_iff.mpr c32
                                        subst c32
                                        have H1 : (lockfastref14_Cut.l1 kj24 l0 y160 (wrap64 (x7_3 + 1)) x8_2 false (wrap64 (x10_3 + 1)) a1_0 x155001_3) = some r := by rw [if_neg (show ¬ (false = true) by decide)] at H; exact H
                                        clear H
                                        have H := H1
                                        clear H1
                                        have H' := Aside0.mk H
                                        clear H
                                        obtain ⟨Ao44, co44, eo44⟩ := Kd.R_slice HO_6.out
                                        subst eo44
                                        have p159 : 0 ≤ ((ji28) : Int) := of_decide_eq_true (by first | (with_reducible assumption) | assumption)
                                        have q159 : (ji28) < (x6_3.length : Int) := of_decide_eq_true (by first | (with_reducible assumption) | assumption)
                                        obtain ⟨ad159, e159, hx159_0, hx159_1⟩ := at_T24 (Kd.R_reads' HO_6.out).2.2 (ji28) p159 q159
                                        cases e159
                                        replace p159 := eq_true p159
                                        replace q159 := eq_true q159
                                        have p31 : 0 ≤ ((ji28) : Int) := of_decide_eq_true (by first | (with_reducible assumption) | assumption)
                                        have q31 : ((ji28) : Int) < ((x6_3.length : Int) : Int) := of_decide_eq_true (by first | (with_reducible assumption) | assumption)
                                        obtain ⟨go31, co31, eo31, gb31, gl31, cl31, HG31⟩ := Kd.R_form HO_6.out (by omega)
                                        (first | cases eo31 | (injection eo31 with ea_ en_ ec_; (first | subst ea_ | (injection ea_ with ea_; subst ea_)); subst ec_; clear en_))
                                        have GB31 := Aside0.mk gb31
                                        have GG31 := Aside0.mk HG31
                                        clear gb31 gl31 HG31
                                        (first | simp only [add_plain] at hx159_0 | skip)
                                        (first | simp only [add_plain] at hx159_1 | skip)
                                        obtain ⟨ce31, hcl31, hM31, hcc31, hfr31⟩ := Kd.R_elem HO_6.out z24 ((ji28) : Int) p31 q31
                                        obtain rfl := k24_openM hM31
                                        have hx31_0 : wc.cell? ⟨go31, ((ji28) : Int).toNat * 2, none⟩ = some (.int .i64 ((rd_T24 x6_3 (ji28)).f0)) := hcc31 0 _ rfl
                                        have hx31_1 : wc.cell? ⟨go31, ((ji28) : Int).toNat * 2 + 1, none⟩ = some (.int .i64 ((rd_T24 x6_3 (ji28)).f1)) := hcc31 1 _ rfl
                                        have hf31_0 : wc.frozen? ⟨go31, ((ji28) : Int).toNat * 2, none⟩ = false := hfr31 0
                                        have hf31_1 : wc.frozen? ⟨go31, ((ji28) : Int).toNat * 2 + 1, none⟩ = false := hfr31 1
                                        clear hcl31 hcc31 hfr31 hM31
                                        replace p31 := eq_true p31
                                        replace q31 := eq_true q31
                                        have HX45 := Aside0.mk (show Kd.R k24 24 wc w.heap.size (fun k_ => k_ ≠ gb154) (.slice (some ⟨go31, 0, none⟩) x6_3.length co44) x6_3 from (by (with_reducible repeat (first | apply Kd.R_alloc | apply Kd.R_drewN | apply Kd.R_drew)); exact HO_6.out))
                                        obtain ⟨ce45, hcl45, hM45, hcc45, hfr45⟩ := Kd.R_elem HX45.out z24 ((ji28) : Int) (of_decide_eq_true (by first | (with_reducible assumption) | assumption)) (by have h_ : ((ji28) : Int) < ((x6_3.length : Int) : Int) := of_decide_eq_true (by first | (with_reducible assumption) | assumption); first | exact h_ | (have e_ := (Kd.R_reads' HO_6.out).1; omega) | simpa using h_)
                                        obtain rfl := k24_openM hM45
                                        have HP45 := Kd.R_seg HX45.out ((ji28) : Int) (of_decide_eq_true (by first | (with_reducible assumption) | assumption)) (by have h_ : ((ji28) : Int) < ((x6_3.length : Int) : Int) := of_decide_eq_true (by first | (with_reducible assumption) | assumption); first | exact h_ | (have e_ := (Kd.R_reads' HO_6.out).1; omega) | simpa using h_) (seg := [.int .i64 (wrap64 (((rd_T24 x6_3 (ji28)).f1) + 1))]) (j := 1) hcl45 hcc45 (show 2 ≤ 2 from by decide) (x' := (⟨(rd_T24 x6_3 (ji28)).f0, wrap64 (((rd_T24 x6_3 (ji28)).f1) + 1)⟩ : S24)) (k24_mkM _ _ _ (⟨(rd_T24 x6_3 (ji28)).f0, wrap64 (((rd_T24 x6_3 (ji28)).f1) + 1)⟩ : S24) ) (fun _ hk => hk)
                                        have hx45_1 := hcc45 1 _ rfl
                                        (try simp only [show (k24).sz = 2 from rfl, Nat.mul_one, Nat.add_zero] at hx45_1)
                                        have hf45_1 := hfr45 1
                                        (try simp only [show (k24).sz = 2 from rfl, Nat.mul_one, Nat.add_zero] at hf45_1)
                                        clear hcl45 hcc45 hfr45 hM45
                                        go_wp2_with (first | ((with_reducible refine gate_store (t := 3) (p := 84) rfl ?_); refine store_event (t := 3) (p := 84) (v := ?vo_w46) (w1 := (wc.setCell ⟨go31, ((ji28) : Int).toNat * 2 + 1, none⟩ (.int .i64 (wrap64 (((rd_T24 x6_3 (ji28)).f1) + 1))))) ?hg ?ho ?hn ?hr ?_; (case ho => rfl); (case hg => rfl); (case hn => rfl); (case hr => first | (go_simp; done) | (go_simp; rfl)); intro w46 hw; have hg : wc.grownBy w46 (some go31) := (by rw [hw]; exact HP45.2); have hp_ : Kd.R k24 24 w46 w.heap.size (fun k_ => k_ ≠ gb154) (.slice (some ⟨go31, 0, none⟩) x6_3.length co44) y160 := (by rw [hw, Ny160.out]; exact HP45.1); clear HP45; have n0_ := Aside0.mk (hp_); have n1_ := Aside0.mk (blk_grown (g := gb154) (o := .cells #[.int .i64 a1_0, .int .i64 x155001_3] 24 (0, 0)) (by (with_reducible repeat (first | refine blk_drewN ?_ _ | refine blk_drew ?_ | refine blk_alloc ?_ _)); exact BK154.out) hg (Kd.R_away HO_6.out (fun _ hk => hk))); have n2_ := Aside0.mk ((by rw [hw]; exact below_set (HB.out) GB31.out : Below w.heap.size w w46)); clear HO_6; clear BK154; clear HB; have HO_6 := n0_; have BK154 := n1_; have HB := n2_; clear n0_ n1_ n2_; clear hg hw hp_))
                                        go_roundg kj24
                                        case measure => have := HJ3.out; have := HK2.out; have := HK3.out; have := HJ20.out; have := HJ24.out; omega
                                        case rel => exact ⟨(y160), (wrap64 (x7_3 + 1)), (false), (wrap64 (x10_3 + 1)), (x155001_3), (by first | rfl | (simp; done) | (simp [*]; done)), (by first | rfl | (simp; done) | (simp [*]; done)), (by first | rfl | (simp; done) | (simp [*]; done)), H', ⟨by have := HJ3.out; have := HK2.out; have := HK3.out; have := HJ20.out; have := HJ24.out; omega⟩, ⟨by (with_reducible repeat (first | apply Kd.R_alloc | apply Kd.R_drewN | apply Kd.R_drew)); exact HO_6.out⟩, ⟨by (with_reducible repeat (first | refine blk_drewN ?_ _ | refine blk_drew ?_ | refine blk_alloc ?_ _)); exact BK154.out⟩, ⟨by repeat (first | (with_reducible first | exact HB.out | apply below_alloc | apply pw_below_drewN | apply below_drew1 | refine below_set ?_ GE154.out) | exact HB.out)⟩⟩
                                    · rw [if_neg c30] at H
                                      exact absurd H (by simp)
                                  · rw [if_neg c29] at H
                                    exact absurd H (by simp)
                                · replace c27 := Bool.eq_false_iff.mpr c27
                                  subst c27
                                  have H1 : (if x11_20 = true then (if x9_3 = true then (lockfastref14_Cut.l1 kj24 l0 x6_3 (wrap64 (x7_3 + 1)) x8_2 x11_20 (wrap64 (x10_3 + 1)) a1_0 x155001_3) else (if 0 ≤ x8_2 then (if x8_2 < (l0.length : Int) then (if x6_3.length < 8796093022208 then (lockfastref14_Cut.l1 kj24 l0 (x6_3 ++ [(⟨wrap64 (((rd_T24 l0 x8_2).f0) + x10_3), 1⟩ : S24)]) (wrap64 (x7_3 + 1)) x8_2 x11_20 (wrap64 (x10_3 + 1)) a1_0 x155001_3) else (none)) else (none)) else (none))) else (lockfastref14_Cut.l1 kj24 l0 x6_3 (wrap64 (x7_3 + 1)) x8_2 x11_20 (wrap64 (x10_3 + 1)) a1_0 x155001_3)) = some r := by rw [if_neg (show ¬ (false = true) by decide)] at H; exact H
                                  clear H
                                  have H := H1
                                  clear H1
                                  by_cases c47 : x11_20 = true
                                  · subst c47
                                    have H1 : (if x9_3 = true then (lockfastref14_Cut.l1 kj24 l0 x6_3 (wrap64 (x7_3 + 1)) x8_2 true (wrap64 (x10_3 + 1)) a1_0 x155001_3) else (if 0 ≤ x8_2 then (if x8_2 < (l0.length : Int) then (if x6_3.length < 8796093022208 then (lockfastref14_Cut.l1 kj24 l0 (x6_3 ++ [(⟨wrap64 (((rd_T24 l0 x8_2).f0) + x10_3), 1⟩ : S24)]) (wrap64 (x7_3 + 1)) x8_2 true (wrap64 (x10_3 + 1)) a1_0 x155001_3) else (none)) else (none)) else (none))) = some r := by rw [if_pos rfl] at H; exact H
                                    clear H
                                    have H := H1
                                    clear H1
                                    by_cases c48 : x9_3 = true
                                    · subst c48
                                      have H1 : (lockfastref14_Cut.l1 kj24 l0 x6_3 (wrap64 (x7_3 + 1)) x8_2 true (wrap64 (x10_3 + 1)) a1_0 x155001_3) = some r := by rw [if_pos rfl] at H; exact H
                                      clear H
                                      have H := H1
                                      clear H1
                                      have H' := Aside0.mk H
                                      clear H
                                      go_wp2
                                      go_roundg kj24
                                      case measure => have := HJ3.out; have := HK2.out; have := HK3.out; have := HJ20.out; have := HJ24.out; omega
                                      case rel => exact ⟨(x6_3), (wrap64 (x7_3 + 1)), (true), (wrap64 (x10_3 + 1)), (x155001_3), (by first | rfl | (simp; done) | (simp [*]; done)), (by first | rfl | (simp; done) | (simp [*]; done)), (by first | rfl | (simp; done) | (simp [*]; done)), H', ⟨by have := HJ3.out; have := HK2.out; have := HK3.out; have := HJ20.out; have := HJ24.out; omega⟩, ⟨by (with_reducible repeat (first | apply Kd.R_alloc | apply Kd.R_drewN | apply Kd.R_drew)); exact HO_6.out⟩, ⟨by (with_reducible repeat (first | refine blk_drewN ?_ _ | refine blk_drew ?_ | refine blk_alloc ?_ _)); exact BK154.out⟩, ⟨by repeat (first | (with_reducible first | exact HB.out | apply below_alloc | apply pw_below_drewN | apply below_drew1 | refine below_set ?_ GE154.out) | exact HB.out)⟩⟩
                                    · replace c48 := Bool.eq_false_iff.mpr c48
                                      subst c48
                                      have H1 : (if 0 ≤ x8_2 then (if x8_2 < (l0.length : Int) then (if x6_3.length < 8796093022208 then (lockfastref14_Cut.l1 kj24 l0 (x6_3 ++ [(⟨wrap64 (((rd_T24 l0 x8_2).f0) + x10_3), 1⟩ : S24)]) (wrap64 (x7_3 + 1)) x8_2 true (wrap64 (x10_3 + 1)) a1_0 x155001_3) else (none)) else (none)) else (none)) = some r := by rw [if_neg (show ¬ (false = true) by decide)] at H; exact H
                                      clear H
                                      have H := H1
                                      clear H1
                                      by_cases c49 : 0 ≤ x8_2
                                      · rw [if_pos c49] at H
                                        have c49b0 : decide (0 ≤ x8_2) = true := decide_eq_true c49
                                        clear c49
                                        by_cases c50 : x8_2 < (l0.length : Int)
                                        · rw [if_pos c50] at H
                                          have c50b0 : decide (x8_2 < (l0.length : Int)) = true := decide_eq_true c50
                                          clear c50
                                          by_cases c51 : x6_3.length < 8796093022208
                                          · rw [if_pos c51] at H
                                            have LMc51 := Aside0.mk c51
                                            clear c51
                                            obtain ⟨y166, hy166⟩ : ∃ y_ : List (S24), y_ = (x6_3 ++ [(⟨wrap64 (((rd_T24 l0 x8_2).f0) + x10_3), 1⟩ : S24)]) := ⟨_, rfl⟩
                                            replace H : (lockfastref14_Cut.l1 kj24 l0 y166 (wrap64 (x7_3 + 1)) x8_2 true (wrap64 (x10_3 + 1)) a1_0 x155001_3) = some r := by first | (rw [hy166]; with_reducible exact H) | (have H2_ := (Option.bind_some _ _).symm.trans H; rw [hy166]; with_reducible exact H2_) | (have H2_ := (Option.bind_some _ _).symm.trans H; with_reducible exact H2_) | with_reducible exact H | (rw [hy166]; exact H) | exact H
                                            have Ny166 := Aside0.mk hy166
                                            clear hy166
                                            have H' := Aside0.mk H
                                            clear H
                                            have p165 : 0 ≤ (x8_2 : Int) := of_decide_eq_true (by first | (with_reducible assumption) | assumption)
                                            have q165 : x8_2 < (l0.length : Int) := of_decide_eq_true (by first | (with_reducible assumption) | assumption)
                                            obtain ⟨ad165, e165, hx165_0, hx165_1⟩ := at_T24 HR0.out x8_2 p165 q165
                                            obtain rfl : ad158 = ad165 := (by injection e165)
                                            replace hx165_0 := (HB.out.cell (World.block_lt_of_cell? w _ hx165_0)).trans hx165_0
                                            replace hx165_1 := (HB.out.cell (World.block_lt_of_cell? w _ hx165_1)).trans hx165_1
                                            replace p165 := eq_true p165
                                            replace q165 := eq_true q165
                                            go_wp2_with (first | ((with_reducible refine gate_builtin (b := .append) (xs := #[.tmp 90, .tmp 99]) rfl ?_); (try (refine gate_guard (by rfl) ?_; dsimp only)); at_builtin; refine Kd.R_append k24 (w0 := w) w.heap.size rfl (.tmp 90) (.tmp 99) 22 24 (.agg #[(.int .i64 0), (.int .i64 0)]) 16 rfl Try.underlying22 info24 rfl (by decide) (by omega) u6 x6_3 (⟨wrap64 (((rd_T24 l0 x8_2).f0) + x10_3), 1⟩ : S24) [.int .i64 (wrap64 (((rd_T24 l0 x8_2).f0) + x10_3)), .int .i64 1] (fun k_ => k_ ≠ gb154) (fun _ => False) rfl rfl ?aP (fun _ hk => hk.elim) ?aF ?aO ?aB ?aS ?aL ?_; (case aP => exact k24_mkM _ _ _ (⟨wrap64 (((rd_T24 l0 x8_2).f0) + x10_3), 1⟩ : S24)); (case aB => exact (by repeat (first | (with_reducible first | exact HB.out | apply below_alloc | apply pw_below_drewN | apply below_drew1 | refine below_set ?_ GE154.out) | exact HB.out))); (case aF => exact (fun k_ hk => Kd.freshB (g := gb154) (o := .cells #[.int .i64 a1_0, .int .i64 x155001_3] 24 (0, 0)) (by (with_reducible repeat (first | refine blk_drewN ?_ _ | refine blk_drew ?_ | refine blk_alloc ?_ _)); exact BK154.out) k_ hk)); (case aO => exact (by (with_reducible repeat (first | apply Kd.R_alloc | apply Kd.R_drewN | apply Kd.R_drew)); exact HO_6.out)); (case aS => exact (below_size (by repeat (first | (with_reducible first | exact HB.out | apply below_alloc | apply pw_below_drewN | apply below_drew1 | refine below_set ?_ GE154.out) | exact HB.out)))); (case aL => have := LMc51.out; omega); intro v167 w52 ho hb hg hat; rw [← Ny166.out] at ho; have n0_ := Aside0.mk (blk_grown (g := gb154) (o := .cells #[.int .i64 a1_0, .int .i64 x155001_3] 24 (0, 0)) (by (with_reducible repeat (first | refine blk_drewN ?_ _ | refine blk_drew ?_ | refine blk_alloc ?_ _)); exact BK154.out) hg (Kd.R_away HO_6.out (fun _ hk => hk))); have n1_ := Aside0.mk (hb); have n2_ := Aside0.mk (ho); clear BK154; clear HB; clear HO_6; have BK154 := n0_; have HB := n1_; have HO168 := n2_; clear n0_ n1_ n2_; clear ho hb hg hat))
                                            go_roundg kj24
                                            case measure => have := HJ3.out; have := HK2.out; have := HK3.out; have := HJ20.out; have := HJ24.out; omega
                                            case rel => exact ⟨(y166), (wrap64 (x7_3 + 1)), (true), (wrap64 (x10_3 + 1)), (x155001_3), (by first | rfl | (simp; done) | (simp [*]; done)), (by first | rfl | (simp; done) | (simp [*]; done)), (by first | rfl | (simp; done) | (simp [*]; done)), H', ⟨by have := HJ3.out; have := HK2.out; have := HK3.out; have := HJ20.out; have := HJ24.out; omega⟩, ⟨by (with_reducible repeat (first | apply Kd.R_alloc | apply Kd.R_drewN | apply Kd.R_drew)); exact HO168.out⟩, ⟨by (with_reducible repeat (first | refine blk_drewN ?_ _ | refine blk_drew ?_ | refine blk_alloc ?_ _)); exact BK154.out⟩, ⟨by repeat (first | (with_reducible first | exact HB.out | apply below_alloc | apply pw_below_drewN | apply below_drew1 | refine below_set ?_ GE154.out) | exact HB.out)⟩⟩
                                          · rw [if_neg c51] at H
                                            exact absurd H (by simp)
                                        · rw [if_neg c50] at H
                                          exact absurd H (by simp)
                                      · rw [if_neg c49] at H
                                        exact absurd H (by simp)
                                  · replace c47 := Bool.eq_false_iff.mpr c47
                                    subst c47
                                    have H1 : (lockfastref14_Cut.l1 kj24 l0 x6_3 (wrap64 (x7_3 + 1)) x8_2 false (wrap64 (x10_3 + 1)) a1_0 x155001_3) = some r := by rw [if_neg (show ¬ (false = true) by decide)] at H; exact H
                                    clear H
                                    have H := H1
                                    clear H1
                                    have H' := Aside0.mk H
                                    clear H
                                    go_wp2
                                    go_roundg kj24
                                    case measure => have := HJ3.out; have := HK2.out; have := HK3.out; have := HJ20.out; have := HJ24.out; omega
                                    case rel => exact ⟨(x6_3), (wrap64 (x7_3 + 1)), (false), (wrap64 (x10_3 + 1)), (x155001_3), (by first | rfl | (simp; done) | (simp [*]; done)), (by first | rfl | (simp; done) | (simp [*]; done)), (by first | rfl | (simp; done) | (simp [*]; done)), H', ⟨by have := HJ3.out; have := HK2.out; have := HK3.out; have := HJ20.out; have := HJ24.out; omega⟩, ⟨by (with_reducible repeat (first | apply Kd.R_alloc | apply Kd.R_drewN | apply Kd.R_drew)); exact HO_6.out⟩, ⟨by (with_reducible repeat (first | refine blk_drewN ?_ _ | refine blk_drew ?_ | refine blk_alloc ?_ _)); exact BK154.out⟩, ⟨by repeat (first | (with_reducible first | exact HB.out | apply below_alloc | apply pw_below_drewN | apply below_drew1 | refine below_set ?_ GE154.out) | exact HB.out)⟩⟩
                      · rw [if_neg c20] at H
                        have c20b0 : decide (x10_3 < ((rd_T24 l0 x8_2).f1)) = false := decide_eq_false c20
                        clear c20
                        have H' := Aside0.mk H
                        clear H
                        have p158 : 0 ≤ (x8_2 : Int) := of_decide_eq_true (by first | (with_reducible assumption) | assumption)
                        have q158 : x8_2 < (l0.length : Int) := of_decide_eq_true (by first | (with_reducible assumption) | assumption)
                        obtain ⟨ad158, e158, hx158_0, hx158_1⟩ := at_T24 HR0.out x8_2 p158 q158
                        cases e158
                        replace hx158_0 := (HB.out.cell (World.block_lt_of_cell? w _ hx158_0)).trans hx158_0
                        replace hx158_1 := (HB.out.cell (World.block_lt_of_cell? w _ hx158_1)).trans hx158_1
                        replace p158 := eq_true p158
                        replace q158 := eq_true q158
                        go_wp2
                        go_roundg k3
                        case measure => have := HJ3.out; have := HK2.out; have := HK3.out; omega
                        case rel => exact ⟨(x6_3), (x7_3), (wrap64 (x8_2 + 1)), (x155001_3), (by first | rfl | (simp; done) | (simp [*]; done)), (by first | rfl | (simp; done) | (simp [*]; done)), H', ⟨by have := HJ3.out; have := HK2.out; have := HK3.out; omega⟩, ⟨by (with_reducible repeat (first | apply Kd.R_alloc | apply Kd.R_drewN | apply Kd.R_drew)); exact HO_6.out⟩, ⟨by (with_reducible repeat (first | refine blk_drewN ?_ _ | refine blk_drew ?_ | refine blk_alloc ?_ _)); exact BK154.out⟩, ⟨by repeat (first | (with_reducible first | exact HB.out | apply below_alloc | apply pw_below_drewN | apply below_drew1 | refine below_set ?_ GE154.out) | exact HB.out)⟩⟩
                    · rw [if_neg c19] at H
                      exact absurd H (by simp)
                  · rw [if_neg c18] at H
                    exact absurd H (by simp)
            · rw [if_neg c17] at H
              have c17b0 : decide (x8_2 < (l0.length : Int)) = false := decide_eq_false c17
              clear c17
              obtain rfl := Option.some.inj H
              go_wp2
              go_ret
              exact ⟨_, by first | rfl | (simp [errW_none, errW_some] <;> rfl) | (simp [*, errW_none, errW_some] <;> rfl), by (with_reducible repeat (first | apply Kd.R_alloc | apply Kd.R_drewN | apply Kd.R_drew)); exact Kd.R_mono HO_6.out (fun _ hk => trivial), by repeat (first | (with_reducible first | exact HB.out | apply below_alloc | apply pw_below_drewN | apply below_drew1 | refine below_set ?_ GE154.out) | exact HB.out)⟩

end Go.Proofs.Ytccnoemcpmdeaaa.Q
