-- Written by lfprint.py of this session's own, by way of the kit's print.py; with hand-made contracts.
import Derived.Test.YtflbmccjfnkflaaDoorQx0
import Derived.Test.YtflbmccjfnkflaaDoorQx16
import Derived.Test.YtflbmccjfnkflaaDoorQx19
namespace Go.Proofs.YtflbmccjfnkflaaDoor.Q
open Go.RowKit Go.Proofs.YtflbmccjfnkflaaDoorW.PrintWords Go.Proofs.YtflbmccjfnkflaaDoorW.PrintLast Go.Proofs.YtflbmccjfnkflaaDoorW.PrintMore
attribute [local go_sem] max2_int min2_int max_two min_two max_three min_three max_four min_four   -- for this text's walks alone
set_option linter.unusedVariables false
set_option linter.unusedSimpArgs false

/-! ### lockfastref10_Live: function 79 -/
def lockfastref10_Live.f (k : Nat) (a0_0 : Int) (a0_1 : Int) (a0_2 : Int) (a0_3 : Int) (a0_4 : Int) (a1 : Int) : Option (Bool) := (lockfastref10_power.f k a1).bind fun t367 => (if t367 = 0 then (none) else (some ((Int.tmod (IntKind.u64.wrap (Int.tdiv a0_4 t367)) 2) == 1)))
theorem lockfastref10_Live.mono : ∀ a0 a1 a2 a3 a4 a5 k, LeO (lockfastref10_Live.f k a0 a1 a2 a3 a4 a5) (lockfastref10_Live.f (k + 1) a0 a1 a2 a3 a4 a5) := by
  intro a0 a1 a2 a3 a4 a5 k
  unfold lockfastref10_Live.f
  repeat' first
      | (with_reducible exact lockfastref10_power.mono _ _)
      | (with_reducible exact LeO.refl _)
      | (with_reducible exact LeO.none _)
      | (with_reducible refine LeO.ite ?_ ?_)
      | (with_reducible refine LeO.bind ?_ (fun _ => ?_))
      | exact lockfastref10_power.mono _ _
      | exact LeO.none _
      | refine LeO.ite ?_ ?_
      | refine LeO.bind ?_ (fun _ => ?_)
set_option maxHeartbeats 8000000 in
set_option maxRecDepth 100000 in
theorem lockfastref10_Live.calls (k : Nat) (a0_0 : Int) (a0_1 : Int) (a0_2 : Int) (a0_3 : Int) (a0_4 : Int) (a1 : Int) (r : Bool) (w : World) (h : lockfastref10_Live.f k a0_0 a0_1 a0_2 a0_3 a0_4 a1 = some r) :
    Calls Tryd.prog 79 #[.agg #[.int .i64 a0_0, .int .i64 a0_1, .int .i64 a0_2, .int .i64 a0_3, .int .u64 a0_4], .int .i64 a1] w fun e w' => e = .returned (.bool r) ∧ Below w.heap.size w w' := by
  have hu29 := Tryd.underlying29
  have HB := Aside0.mk (Below.refl w.heap.size w)
  have H : ((lockfastref10_power.f k a1).bind fun t367 => (if t367 = 0 then (none) else (some ((Int.tmod (IntKind.u64.wrap (Int.tdiv a0_4 t367)) 2) == 1)))) = some r := h
  clear h
  replace H := Option.bind_eq_some_iff.mp H
  obtain ⟨t367, A30, H⟩ := H
  replace H : (if t367 = 0 then (none) else (some ((Int.tmod (IntKind.u64.wrap (Int.tdiv a0_4 t367)) 2) == 1))) = some r := H
  have A3 := Aside0.mk A30
  clear A30
  by_cases c4 : t367 = 0
  · rw [if_pos c4] at H
    exact absurd H (by simp)
  · rw [if_neg c4] at H
    have c4b0 : (t367 == 0) = false := beq_eq_false_iff_ne.mpr c4
    have c4b1 : (t367 != 0) = true := bne_iff_ne.mpr c4
    obtain rfl := Option.some.inj H
    go_enter Tryd.func79, Tryd.ntmps79
    go_wp2_with (first | ((with_reducible refine gate_dst (N := 2) rfl ?_); refine box_event ?hg (N := 2) ?hd (cs := #[.int .i64 a0_0, .int .i64 a0_1, .int .i64 a0_2, .int .i64 a0_3, .int .u64 a0_4]) (t := 29) ?hr ?_; (case hd => rfl); (case hg => rfl); (case hr => first | (go_simp; done) | (go_simp; rfl)); intro gb366 hg w5 hbox hb; have n0_ := Aside0.mk (below_step (by repeat (first | (with_reducible first | exact HB.out | apply below_alloc | apply pw_below_drewN | apply below_drew1) | exact HB.out)) hb); have n1_ := Aside0.mk (hbox); have n2_ := Aside0.mk ((by rw [hg]; exact (below_size (by repeat (first | (with_reducible first | exact HB.out | apply below_alloc | apply pw_below_drewN | apply below_drew1) | exact HB.out))) : w.heap.size ≤ gb366)); have n3_ := Aside0.mk ((by rw [hg]; exact (below_size (by repeat (first | (with_reducible first | exact HB.out | apply below_alloc | apply pw_below_drewN | apply below_drew1) | exact HB.out))) : w.heap.size ≤ gb366)); clear HB; have HB := n0_; have BK366 := n1_; have GW366 := n2_; have GE366 := n3_; clear n0_ n1_ n2_ n3_; clear hb hbox hg; have hcz6_0 : w5.cell? ⟨gb366, 0, none⟩ = some (.int .i64 a0_0) := (blk_cell BK366.out 0).trans rfl; have hcz6_1 : w5.cell? ⟨gb366, 1, none⟩ = some (.int .i64 a0_1) := (blk_cell BK366.out 1).trans rfl; have hcz6_2 : w5.cell? ⟨gb366, 2, none⟩ = some (.int .i64 a0_2) := (blk_cell BK366.out 2).trans rfl; have hcz6_3 : w5.cell? ⟨gb366, 3, none⟩ = some (.int .i64 a0_3) := (blk_cell BK366.out 3).trans rfl; have hcz6_4 : w5.cell? ⟨gb366, 4, none⟩ = some (.int .u64 a0_4) := (blk_cell BK366.out 4).trans rfl; have hfz6_0 := blk_frozen BK366.out 0; have hfz6_1 := blk_frozen BK366.out 1; have hfz6_2 := blk_frozen BK366.out 2; have hfz6_3 := blk_frozen BK366.out 3; have hfz6_4 := blk_frozen BK366.out 4) | (go_at_call 101; (with_reducible refine (lockfastref10_power.calls k a1 t367 _ A3.out).mono ?_); rintro e w' ⟨rfl, ⟨nd, rfl⟩⟩; (try first | exact ⟨rfl, _, World.drewN_drewN _ _ _⟩ | exact ⟨rfl, _, Eq.trans (World.drewN_drewN _ _ _) (congrArg (World.drewN _) (Nat.add_assoc _ _ _))⟩)))
    repeat (go_quiet (first | ((with_reducible refine gate_dst (N := 2) rfl ?_); refine box_event ?hg (N := 2) ?hd (cs := #[.int .i64 a0_0, .int .i64 a0_1, .int .i64 a0_2, .int .i64 a0_3, .int .u64 a0_4]) (t := 29) ?hr ?_; (case hd => rfl); (case hg => rfl); (case hr => first | (go_simp; done) | (go_simp; rfl)); intro gb366 hg w5 hbox hb; have n0_ := Aside0.mk (below_step (by repeat (first | (with_reducible first | exact HB.out | apply below_alloc | apply pw_below_drewN | apply below_drew1) | exact HB.out)) hb); have n1_ := Aside0.mk (hbox); have n2_ := Aside0.mk ((by rw [hg]; exact (below_size (by repeat (first | (with_reducible first | exact HB.out | apply below_alloc | apply pw_below_drewN | apply below_drew1) | exact HB.out))) : w.heap.size ≤ gb366)); have n3_ := Aside0.mk ((by rw [hg]; exact (below_size (by repeat (first | (with_reducible first | exact HB.out | apply below_alloc | apply pw_below_drewN | apply below_drew1) | exact HB.out))) : w.heap.size ≤ gb366)); clear HB; have HB := n0_; have BK366 := n1_; have GW366 := n2_; have GE366 := n3_; clear n0_ n1_ n2_ n3_; clear hb hbox hg; have hcz6_0 : w5.cell? ⟨gb366, 0, none⟩ = some (.int .i64 a0_0) := (blk_cell BK366.out 0).trans rfl; have hcz6_1 : w5.cell? ⟨gb366, 1, none⟩ = some (.int .i64 a0_1) := (blk_cell BK366.out 1).trans rfl; have hcz6_2 : w5.cell? ⟨gb366, 2, none⟩ = some (.int .i64 a0_2) := (blk_cell BK366.out 2).trans rfl; have hcz6_3 : w5.cell? ⟨gb366, 3, none⟩ = some (.int .i64 a0_3) := (blk_cell BK366.out 3).trans rfl; have hcz6_4 : w5.cell? ⟨gb366, 4, none⟩ = some (.int .u64 a0_4) := (blk_cell BK366.out 4).trans rfl; have hfz6_0 := blk_frozen BK366.out 0; have hfz6_1 := blk_frozen BK366.out 1; have hfz6_2 := blk_frozen BK366.out 2; have hfz6_3 := blk_frozen BK366.out 3; have hfz6_4 := blk_frozen BK366.out 4) | (go_at_call 101; (with_reducible refine (lockfastref10_power.calls k a1 t367 _ A3.out).mono ?_); rintro e w' ⟨rfl, ⟨nd, rfl⟩⟩; (try first | exact ⟨rfl, _, World.drewN_drewN _ _ _⟩ | exact ⟨rfl, _, Eq.trans (World.drewN_drewN _ _ _) (congrArg (World.drewN _) (Nat.add_assoc _ _ _))⟩))); try go_wp2_with (first | ((with_reducible refine gate_dst (N := 2) rfl ?_); refine box_event ?hg (N := 2) ?hd (cs := #[.int .i64 a0_0, .int .i64 a0_1, .int .i64 a0_2, .int .i64 a0_3, .int .u64 a0_4]) (t := 29) ?hr ?_; (case hd => rfl); (case hg => rfl); (case hr => first | (go_simp; done) | (go_simp; rfl)); intro gb366 hg w5 hbox hb; have n0_ := Aside0.mk (below_step (by repeat (first | (with_reducible first | exact HB.out | apply below_alloc | apply pw_below_drewN | apply below_drew1) | exact HB.out)) hb); have n1_ := Aside0.mk (hbox); have n2_ := Aside0.mk ((by rw [hg]; exact (below_size (by repeat (first | (with_reducible first | exact HB.out | apply below_alloc | apply pw_below_drewN | apply below_drew1) | exact HB.out))) : w.heap.size ≤ gb366)); have n3_ := Aside0.mk ((by rw [hg]; exact (below_size (by repeat (first | (with_reducible first | exact HB.out | apply below_alloc | apply pw_below_drewN | apply below_drew1) | exact HB.out))) : w.heap.size ≤ gb366)); clear HB; have HB := n0_; have BK366 := n1_; have GW366 := n2_; have GE366 := n3_; clear n0_ n1_ n2_ n3_; clear hb hbox hg; have hcz6_0 : w5.cell? ⟨gb366, 0, none⟩ = some (.int .i64 a0_0) := (blk_cell BK366.out 0).trans rfl; have hcz6_1 : w5.cell? ⟨gb366, 1, none⟩ = some (.int .i64 a0_1) := (blk_cell BK366.out 1).trans rfl; have hcz6_2 : w5.cell? ⟨gb366, 2, none⟩ = some (.int .i64 a0_2) := (blk_cell BK366.out 2).trans rfl; have hcz6_3 : w5.cell? ⟨gb366, 3, none⟩ = some (.int .i64 a0_3) := (blk_cell BK366.out 3).trans rfl; have hcz6_4 : w5.cell? ⟨gb366, 4, none⟩ = some (.int .u64 a0_4) := (blk_cell BK366.out 4).trans rfl; have hfz6_0 := blk_frozen BK366.out 0; have hfz6_1 := blk_frozen BK366.out 1; have hfz6_2 := blk_frozen BK366.out 2; have hfz6_3 := blk_frozen BK366.out 3; have hfz6_4 := blk_frozen BK366.out 4) | (go_at_call 101; (with_reducible refine (lockfastref10_power.calls k a1 t367 _ A3.out).mono ?_); rintro e w' ⟨rfl, ⟨nd, rfl⟩⟩; (try first | exact ⟨rfl, _, World.drewN_drewN _ _ _⟩ | exact ⟨rfl, _, Eq.trans (World.drewN_drewN _ _ _) (congrArg (World.drewN _) (Nat.add_assoc _ _ _))⟩))))
    go_ret
    exact ⟨by first | rfl | (simp [errW_none, errW_some] <;> rfl) | (simp [*, errW_none, errW_some] <;> rfl), by repeat (first | (with_reducible first | exact HB.out | apply below_alloc | apply pw_below_drewN | apply below_drew1 | refine below_set ?_ GE366.out) | exact HB.out)⟩

/-! ### lockfastref11_Blocks: function 53 -/
mutual
def lockfastref11_Blocks.l0 : Nat → List (S29) → List (S42) → Int → Option ((List (S42)))
  | 0, _, _, _ => none
  | k + 1, x3, x5, x6 => if x6 < (x3.length : Int) then (if 0 ≤ x6 then (if ((rd_T29 x3 x6).f0) = 2 then (if x5.length < 5864062014805 then (lockfastref11_Blocks.j1 k x3 (x5 ++ [(⟨x6, 0, wrap64 (32 * ((rd_T29 x3 x6).f3))⟩ : S42)]) x6) else (none)) else (lockfastref11_Blocks.j1 k x3 x5 x6)) else (none)) else (some x5)
def lockfastref11_Blocks.j1 : Nat → List (S29) → List (S42) → Int → Option ((List (S42)))
  | 0, _, _, _ => none
  | k + 1, x3, x5, x6 => lockfastref11_Blocks.l1 k x3 x5 x6 0
def lockfastref11_Blocks.l1 : Nat → List (S29) → List (S42) → Int → Int → Option ((List (S42)))
  | 0, _, _, _, _ => none
  | k + 1, x3, x5, x6, x7 => if 0 ≤ x6 then (if x6 < (x3.length : Int) then (if ((rd_T29 x3 x6).f0) = 1 then ((lockfastref09_Many.f k ((rd_T29 x3 x6).f1)).bind fun t379 => (lockfastref11_Blocks.j3 k x3 x5 x6 x7 (decide (x7 < t379)))) else (lockfastref11_Blocks.j3 k x3 x5 x6 x7 false)) else (none)) else (none)
def lockfastref11_Blocks.j3 : Nat → List (S29) → List (S42) → Int → Int → Bool → Option ((List (S42)))
  | 0, _, _, _, _, _ => none
  | k + 1, x3, x5, x6, x7, x52 => if x52 = true then (if 0 ≤ x6 then (if x6 < (x3.length : Int) then ((lockfastref10_Live.f k ((rd_T29 x3 x6).f0) ((rd_T29 x3 x6).f1) ((rd_T29 x3 x6).f2) ((rd_T29 x3 x6).f3) ((rd_T29 x3 x6).f4) x7).bind fun t381 => (if t381 = true then ((lockfastref09_Block.f ((rd_T29 x3 x6).f1)).bind fun t383 => (if x5.length < 5864062014805 then (lockfastref11_Blocks.l1 k x3 (x5 ++ [(⟨x6, x7, t383⟩ : S42)]) x6 (wrap64 (x7 + 1))) else (none))) else (lockfastref11_Blocks.l1 k x3 x5 x6 (wrap64 (x7 + 1))))) else (none)) else (none)) else (lockfastref11_Blocks.l0 k x3 x5 (wrap64 (x6 + 1)))
end
def lockfastref11_Blocks.f (k : Nat) (l0 : List Int) : Option ((List (S42))) := (lockfastref11_Chunks.f k l0).bind fun bt368 => (lockfastref11_Blocks.l0 k bt368.1 ([] : List (S42)) 0)
theorem lockfastref11_Blocks.mono_l : ∀ k, (∀ y0 y1 y2, LeO (lockfastref11_Blocks.l0 k y0 y1 y2) (lockfastref11_Blocks.l0 (k + 1) y0 y1 y2)) ∧ (∀ y0 y1 y2, LeO (lockfastref11_Blocks.j1 k y0 y1 y2) (lockfastref11_Blocks.j1 (k + 1) y0 y1 y2)) ∧ (∀ y0 y1 y2 y3, LeO (lockfastref11_Blocks.l1 k y0 y1 y2 y3) (lockfastref11_Blocks.l1 (k + 1) y0 y1 y2 y3)) ∧ (∀ y0 y1 y2 y3 y4, LeO (lockfastref11_Blocks.j3 k y0 y1 y2 y3 y4) (lockfastref11_Blocks.j3 (k + 1) y0 y1 y2 y3 y4))
  | 0 => ⟨fun _ _ _ r h => by simp [lockfastref11_Blocks.l0] at h, fun _ _ _ r h => by simp [lockfastref11_Blocks.j1] at h, fun _ _ _ _ r h => by simp [lockfastref11_Blocks.l1] at h, fun _ _ _ _ _ r h => by simp [lockfastref11_Blocks.j3] at h⟩
  | k + 1 => by
    obtain ⟨ih0, ih1, ih2, ih3⟩ := lockfastref11_Blocks.mono_l k
    refine ⟨?_, ?_, ?_, ?_⟩
    · intro y0 y1 y2
      unfold lockfastref11_Blocks.l0
      repeat' first
      | (with_reducible exact ih0 _ _ _)
      | (with_reducible exact ih1 _ _ _)
      | (with_reducible exact ih2 _ _ _ _)
      | (with_reducible exact ih3 _ _ _ _ _)
      | (with_reducible exact lockfastref09_Many.mono _ _)
      | (with_reducible exact lockfastref10_Live.mono _ _ _ _ _ _ _)
      | (with_reducible exact lockfastref11_Chunks.mono _ _)
      | (with_reducible exact LeO.refl _)
      | (with_reducible exact LeO.none _)
      | (with_reducible refine LeO.ite ?_ ?_)
      | (with_reducible refine LeO.bind ?_ (fun _ => ?_))
      | exact ih0 _ _ _
      | exact ih1 _ _ _
      | exact ih2 _ _ _ _
      | exact ih3 _ _ _ _ _
      | exact lockfastref09_Many.mono _ _
      | exact lockfastref10_Live.mono _ _ _ _ _ _ _
      | exact lockfastref11_Chunks.mono _ _
      | exact LeO.none _
      | refine LeO.ite ?_ ?_
      | refine LeO.bind ?_ (fun _ => ?_)
    · intro y0 y1 y2
      unfold lockfastref11_Blocks.j1
      repeat' first
      | (with_reducible exact ih0 _ _ _)
      | (with_reducible exact ih1 _ _ _)
      | (with_reducible exact ih2 _ _ _ _)
      | (with_reducible exact ih3 _ _ _ _ _)
      | (with_reducible exact lockfastref09_Many.mono _ _)
      | (with_reducible exact lockfastref10_Live.mono _ _ _ _ _ _ _)
      | (with_reducible exact lockfastref11_Chunks.mono _ _)
      | (with_reducible exact LeO.refl _)
      | (with_reducible exact LeO.none _)
      | (with_reducible refine LeO.ite ?_ ?_)
      | (with_reducible refine LeO.bind ?_ (fun _ => ?_))
      | exact ih0 _ _ _
      | exact ih1 _ _ _
      | exact ih2 _ _ _ _
      | exact ih3 _ _ _ _ _
      | exact lockfastref09_Many.mono _ _
      | exact lockfastref10_Live.mono _ _ _ _ _ _ _
      | exact lockfastref11_Chunks.mono _ _
      | exact LeO.none _
      | refine LeO.ite ?_ ?_
      | refine LeO.bind ?_ (fun _ => ?_)
    · intro y0 y1 y2 y3
      unfold lockfastref11_Blocks.l1
      repeat' first
      | (with_reducible exact ih0 _ _ _)
      | (with_reducible exact ih1 _ _ _)
      | (with_reducible exact ih2 _ _ _ _)
      | (with_reducible exact ih3 _ _ _ _ _)
      | (with_reducible exact lockfastref09_Many.mono _ _)
      | (with_reducible exact lockfastref10_Live.mono _ _ _ _ _ _ _)
      | (with_reducible exact lockfastref11_Chunks.mono _ _)
      | (with_reducible exact LeO.refl _)
      | (with_reducible exact LeO.none _)
      | (with_reducible refine LeO.ite ?_ ?_)
      | (with_reducible refine LeO.bind ?_ (fun _ => ?_))
      | exact ih0 _ _ _
      | exact ih1 _ _ _
      | exact ih2 _ _ _ _
      | exact ih3 _ _ _ _ _
      | exact lockfastref09_Many.mono _ _
      | exact lockfastref10_Live.mono _ _ _ _ _ _ _
      | exact lockfastref11_Chunks.mono _ _
      | exact LeO.none _
      | refine LeO.ite ?_ ?_
      | refine LeO.bind ?_ (fun _ => ?_)
    · intro y0 y1 y2 y3 y4
      unfold lockfastref11_Blocks.j3
      repeat' first
      | (with_reducible exact ih0 _ _ _)
      | (with_reducible exact ih1 _ _ _)
      | (with_reducible exact ih2 _ _ _ _)
      | (with_reducible exact ih3 _ _ _ _ _)
      | (with_reducible exact lockfastref09_Many.mono _ _)
      | (with_reducible exact lockfastref10_Live.mono _ _ _ _ _ _ _)
      | (with_reducible exact lockfastref11_Chunks.mono _ _)
      | (with_reducible exact LeO.refl _)
      | (with_reducible exact LeO.none _)
      | (with_reducible refine LeO.ite ?_ ?_)
      | (with_reducible refine LeO.bind ?_ (fun _ => ?_))
      | exact ih0 _ _ _
      | exact ih1 _ _ _
      | exact ih2 _ _ _ _
      | exact ih3 _ _ _ _ _
      | exact lockfastref09_Many.mono _ _
      | exact lockfastref10_Live.mono _ _ _ _ _ _ _
      | exact lockfastref11_Chunks.mono _ _
      | exact LeO.none _
      | refine LeO.ite ?_ ?_
      | refine LeO.bind ?_ (fun _ => ?_)
theorem lockfastref11_Blocks.mono : ∀ a0 k, LeO (lockfastref11_Blocks.f k a0) (lockfastref11_Blocks.f (k + 1) a0) := by
  intro a0 k
  obtain ⟨ih0, ih1, ih2, ih3⟩ := lockfastref11_Blocks.mono_l k
  unfold lockfastref11_Blocks.f
  repeat' first
      | (with_reducible exact ih0 _ _ _)
      | (with_reducible exact ih1 _ _ _)
      | (with_reducible exact ih2 _ _ _ _)
      | (with_reducible exact ih3 _ _ _ _ _)
      | (with_reducible exact lockfastref09_Many.mono _ _)
      | (with_reducible exact lockfastref10_Live.mono _ _ _ _ _ _ _)
      | (with_reducible exact lockfastref11_Chunks.mono _ _)
      | (with_reducible exact LeO.refl _)
      | (with_reducible exact LeO.none _)
      | (with_reducible refine LeO.ite ?_ ?_)
      | (with_reducible refine LeO.bind ?_ (fun _ => ?_))
      | exact ih0 _ _ _
      | exact ih1 _ _ _
      | exact ih2 _ _ _ _
      | exact ih3 _ _ _ _ _
      | exact lockfastref09_Many.mono _ _
      | exact lockfastref10_Live.mono _ _ _ _ _ _ _
      | exact lockfastref11_Chunks.mono _ _
      | exact LeO.none _
      | refine LeO.ite ?_ ?_
      | refine LeO.bind ?_ (fun _ => ?_)
set_option maxHeartbeats 8000000 in
set_option maxRecDepth 100000 in
theorem lockfastref11_Blocks.calls (k : Nat) (A0 : Option Addr) (c0 : Nat) (l0 : List Int) (r : List (S42)) (w : World) (hr0 : Kd.C (Kd.int .u64) w A0 l0.length l0) (hc0 : l0.length ≤ c0) (h : lockfastref11_Blocks.f k l0 = some r) :
    Calls Tryd.prog 53 #[.slice A0 l0.length c0] w fun e w' => ∃ v0_ : Value, e = .returned (v0_) ∧ Kd.R k42 42 w' w.heap.size (fun _ => True) v0_ r ∧ Below w.heap.size w w' := by
  have hu42 := Tryd.underlying42
  have hu29 := Tryd.underlying29
  have HR0 := Aside0.mk hr0
  have HC0 := Aside0.mk hc0
  clear hr0 hc0
  have HB := Aside0.mk (Below.refl w.heap.size w)
  have H : ((lockfastref11_Chunks.f k l0).bind fun bt368 => (lockfastref11_Blocks.l0 k bt368.1 ([] : List (S42)) 0)) = some r := h
  clear h
  replace H := Option.bind_eq_some_iff.mp H
  obtain ⟨⟨t368, t369⟩, A20, H⟩ := H
  replace H : (lockfastref11_Blocks.l0 k t368 ([] : List (S42)) 0) = some r := H
  have A2 := Aside0.mk A20
  clear A20
  have H' := Aside0.mk H
  clear H
  go_enter Tryd.func53, Tryd.ntmps53
  go_wp2_with (first | ((with_reducible refine gate_callee (f := 17) rfl ?_); refine goesL_ (some 11) rfl rfl Tryd.func17 (by kernel_rfl) rfl #[.slice A0 l0.length c0] rfl (by (try simp only [List.map_toArray, List.map_cons, List.map_nil]); first | done | rfl | (simp only [List.length_drop, List.length_take]; rfl)) ?_; (with_reducible refine (lockfastref11_Chunks.calls k _ _ l0 t368 t369 _ ?side1 ?side2 A2.out).mono ?_); (case side1 => repeat (first | exact HR0.out | (with_reducible refine Kd.C_alloc ?_ _) | (with_reducible refine Kd.C_drewN ?_ _) | (with_reducible refine Kd.C_drew ?_))); (case side2 => exact HC0.out); rintro e w3 ⟨v370, rfl, ho0, hb⟩; refine ⟨_, rfl, ?_⟩; have n0_ := Aside0.mk (Kd.R_lower ho0 (below_size (by repeat (first | (with_reducible first | exact HB.out | apply below_alloc | apply pw_below_drewN | apply below_drew1) | exact HB.out)))); have n1_ := Aside0.mk (below_step (by repeat (first | (with_reducible first | exact HB.out | apply below_alloc | apply pw_below_drewN | apply below_drew1) | exact HB.out)) hb); clear HB; have HO371 := n0_; have HB := n1_; clear n0_ n1_; (try clear hb); (try clear hb2); (try clear hk); (try clear hi); (try clear ho0)))
  go_loopg [5, 6] k (fun kq v5 v6 w' => ∃ (x5_1 : List (S42)) (x6_1 : Int), v6 = .int .i64 x6_1 ∧ Aside0 (lockfastref11_Blocks.l0 kq t368 x5_1 x6_1 = some r) ∧ Aside0 (kq ≤ k) ∧ Aside0 (Kd.R k29 29 w' w.heap.size (fun _ => True) v370 t368) ∧ Aside0 (Kd.R k42 42 w' w.heap.size (fun _ => True) v5 x5_1) ∧ Aside0 (Below w.heap.size w w'))
  case atStart => exact ⟨(([] : List (S42))), (0), (by first | rfl | (simp; done) | (simp [*]; done)), H', ⟨Nat.le_refl _⟩, ⟨by (with_reducible repeat (first | apply Kd.R_alloc | apply Kd.R_drewN | apply Kd.R_drew)); exact HO371.out⟩, ⟨by first | exact Kd.R_nil _ _ _ _ _ | exact Kd.N_nil _ _ _ _ _ | exact Kd.V_nil _ _ _ _ _ | exact Kd.Q_nil _ _ _ _ _ | exact Kd.S_nil _ _ _ _ _⟩, ⟨by repeat (first | (with_reducible first | exact HB.out | apply below_alloc | apply pw_below_drewN | apply below_drew1) | exact HB.out)⟩⟩
  case round =>
    clear H'
    try clear c1
    try clear p2
    obtain ⟨x5_1, x6_1, rfl, HA, HK1, HO_3, HO_5, HB⟩ := hrel
    cases gk with
    | zero => exact absurd HA.out (by simp [lockfastref11_Blocks.l0])
    | succ k1 =>
      have H := HA.out
      clear HA
      simp only [lockfastref11_Blocks.l0] at H
      by_cases c4 : x6_1 < (t368.length : Int)
      · rw [if_pos c4] at H
        have c4b0 : decide (x6_1 < (t368.length : Int)) = true := decide_eq_true c4
        clear c4
        by_cases c5 : 0 ≤ x6_1
        · rw [if_pos c5] at H
          have c5b0 : decide (0 ≤ x6_1) = true := decide_eq_true c5
          clear c5
          have HC6 := Aside0.mk H
          clear H
          obtain ⟨Ao7, co7, eo7⟩ := Kd.R_slice HO_3.out
          subst eo7
          have p372 : 0 ≤ (x6_1 : Int) := of_decide_eq_true (by first | (with_reducible assumption) | assumption)
          have q372 : x6_1 < (t368.length : Int) := of_decide_eq_true (by first | (with_reducible assumption) | assumption)
          obtain ⟨ad372, e372, hx372_0, hx372_1, hx372_2, hx372_3, hx372_4⟩ := at_T29 (Kd.R_reads' HO_3.out).2.2 x6_1 p372 q372
          cases e372
          replace p372 := eq_true p372
          replace q372 := eq_true q372
          go_upto_if 25 with (fail)
          go_cut [5] (fun v5 wc => ∃ (kq : Nat) (x5_5 : List (S42)), Aside0 (lockfastref11_Blocks.j1 kq t368 x5_5 x6_1 = some r) ∧ Aside0 (kq ≤ k1) ∧ Aside0 (Kd.R k29 29 wc w.heap.size (fun _ => True) (.slice (some ad372) t368.length co7) t368) ∧ Aside0 (Kd.R k42 42 wc w.heap.size (fun _ => True) v5 x5_5) ∧ Aside0 (Below w.heap.size w wc))
          case first =>
            have H := HC6.out
            clear HC6
            by_cases c8 : ((rd_T29 t368 x6_1).f0) = 2
            · rw [if_pos c8] at H
              have c8b0 : (((rd_T29 t368 x6_1).f0) == 2) = true := beq_iff_eq.mpr c8
              have c8b1 : (((rd_T29 t368 x6_1).f0) != 2) = false := bne_eq_false_iff_eq.mpr c8
              clear c8
              (first | rw [c8b0] | (simp only [i64_w, i32_w]; rw [c8b0]) | skip)
              by_cases c9 : x5_1.length < 5864062014805
              · rw [if_pos c9] at H
                have LMc9 := Aside0.mk c9
                clear c9
                obtain ⟨y374, hy374⟩ : ∃ y_ : List (S42), y_ = (x5_1 ++ [(⟨x6_1, 0, wrap64 (32 * ((rd_T29 t368 x6_1).f3))⟩ : S42)]) := ⟨_, rfl⟩
                replace H : (lockfastref11_Blocks.j1 k1 t368 y374 x6_1) = some r := by first | (rw [hy374]; with_reducible exact H) | (have H2_ := (Option.bind_some _ _).symm.trans H; rw [hy374]; with_reducible exact H2_) | (have H2_ := (Option.bind_some _ _).symm.trans H; with_reducible exact H2_) | with_reducible exact H | (rw [hy374]; exact H) | exact H
                have Ny374 := Aside0.mk hy374
                clear hy374
                have H' := Aside0.mk H
                clear H
                have p373 : 0 ≤ (x6_1 : Int) := of_decide_eq_true (by first | (with_reducible assumption) | assumption)
                have q373 : x6_1 < (t368.length : Int) := of_decide_eq_true (by first | (with_reducible assumption) | assumption)
                obtain ⟨ad373, e373, hx373_0, hx373_1, hx373_2, hx373_3, hx373_4⟩ := at_T29 (Kd.R_reads' HO_3.out).2.2 x6_1 p373 q373
                obtain rfl : ad372 = ad373 := (by injection e373)
                replace p373 := eq_true p373
                replace q373 := eq_true q373
                go_wp2_with (first | ((with_reducible refine gate_builtin (b := .append) (xs := #[.tmp 26, .tmp 35]) rfl ?_); at_builtin; refine Kd.R_append k42 (w0 := w) w.heap.size rfl (.tmp 26) (.tmp 35) 39 42 (.agg #[(.int .i64 0), (.int .i64 0), (.int .i64 0)]) 24 rfl Tryd.underlying39 info42 rfl (by decide) (by omega) u5 x5_1 (⟨x6_1, 0, wrap64 (32 * ((rd_T29 t368 x6_1).f3))⟩ : S42) [.int .i64 x6_1, .int .i64 0, .int .i64 (wrap64 (32 * ((rd_T29 t368 x6_1).f3)))] (fun _ => True) (fun _ => False) rfl rfl ?aP (fun _ hk => hk.elim) ?aF ?aO ?aB ?aS ?aL ?_; (case aP => exact k42_mkM _ _ _ (⟨x6_1, 0, wrap64 (32 * ((rd_T29 t368 x6_1).f3))⟩ : S42)); (case aB => exact (by repeat (first | (with_reducible first | exact HB.out | apply below_alloc | apply pw_below_drewN | apply below_drew1) | exact HB.out))); (case aF => exact (fun _ _ => trivial)); (case aO => exact (by (with_reducible repeat (first | apply Kd.R_alloc | apply Kd.R_drewN | apply Kd.R_drew)); exact HO_5.out)); (case aS => exact (below_size (by repeat (first | (with_reducible first | exact HB.out | apply below_alloc | apply pw_below_drewN | apply below_drew1) | exact HB.out)))); (case aL => have := LMc9.out; omega); intro v375 w10 ho hb hg hat; rw [← Ny374.out] at ho; have n0_ := Aside0.mk (Kd.R_over' (by (with_reducible repeat (first | apply Kd.R_alloc | apply Kd.R_drewN | apply Kd.R_drew)); exact HO_3.out) (Kd.R_typed (by (with_reducible repeat (first | apply Kd.R_alloc | apply Kd.R_drewN | apply Kd.R_drew)); exact HO_5.out)) (by decide) hg); have n1_ := Aside0.mk (hb); have n2_ := Aside0.mk (ho); clear HO_3; clear HB; clear HO_5; have HO_3 := n0_; have HB := n1_; have HO376 := n2_; clear n0_ n1_ n2_; clear ho hb hg hat))
                go_meet
                case rel => exact ⟨_, (y374), H', ⟨by have := HK1.out; first | omega | exact Nat.le_refl _⟩, ⟨by (with_reducible repeat (first | apply Kd.R_alloc | apply Kd.R_drewN | apply Kd.R_drew)); exact HO_3.out⟩, ⟨by (with_reducible repeat (first | apply Kd.R_alloc | apply Kd.R_drewN | apply Kd.R_drew)); exact HO376.out⟩, ⟨by repeat (first | (with_reducible first | exact HB.out | apply below_alloc | apply pw_below_drewN | apply below_drew1) | exact HB.out)⟩⟩
              · rw [if_neg c9] at H
                exact absurd H (by simp)
            · rw [if_neg c8] at H
              have c8b0 : (((rd_T29 t368 x6_1).f0) == 2) = false := beq_eq_false_iff_ne.mpr c8
              have c8b1 : (((rd_T29 t368 x6_1).f0) != 2) = true := bne_iff_ne.mpr c8
              (first | rw [c8b0] | (simp only [i64_w, i32_w]; rw [c8b0]) | skip)
              have H' := Aside0.mk H
              clear H
              go_wp2
              go_meet
              case rel => exact ⟨_, (x5_1), H', ⟨by have := HK1.out; first | omega | exact Nat.le_refl _⟩, ⟨by (with_reducible repeat (first | apply Kd.R_alloc | apply Kd.R_drewN | apply Kd.R_drew)); exact HO_3.out⟩, ⟨by (with_reducible repeat (first | apply Kd.R_alloc | apply Kd.R_drewN | apply Kd.R_drew)); exact HO_5.out⟩, ⟨by repeat (first | (with_reducible first | exact HB.out | apply below_alloc | apply pw_below_drewN | apply below_drew1) | exact HB.out)⟩⟩
          case rest =>
            clear HC6
            try clear c1
            try clear p2
            try clear p3
            try clear q3
            try clear hx3
            try clear c4
            try clear c4b0
            try clear c5
            try clear c5b0
            try clear p6
            try clear c8
            try clear c8b0
            try clear c8b1
            try clear c9
            try clear hx372_0
            try clear hx372_1
            try clear hx372_2
            try clear hx372_3
            try clear hx372_4
            try clear hx373_0
            try clear hx373_1
            try clear hx373_2
            try clear hx373_3
            try clear hx373_4
            try clear p2
            try clear p372
            try clear p373
            try clear q372
            try clear q373
            obtain ⟨kq, x5_5, HA, HJ5, HO_3, HO_5, HB⟩ := hcut
            cases kq with
            | zero => exact absurd HA.out (by simp [lockfastref11_Blocks.j1])
            | succ kj5 =>
              have H := HA.out
              clear HA
              simp only [lockfastref11_Blocks.j1] at H
              have H' := Aside0.mk H
              clear H
              go_wp2
              go_loopg [5, 7] kj5 (fun kq v5 v7 w' => ∃ (x5_3 : List (S42)) (x7_3 : Int), v7 = .int .i64 x7_3 ∧ Aside0 (lockfastref11_Blocks.l1 kq t368 x5_3 x6_1 x7_3 = some r) ∧ Aside0 (kq ≤ kj5) ∧ Aside0 (Kd.R k29 29 w' w.heap.size (fun _ => True) (.slice (some ad372) t368.length co7) t368) ∧ Aside0 (Kd.R k42 42 w' w.heap.size (fun _ => True) v5 x5_3) ∧ Aside0 (Below w.heap.size w w'))
              case atStart => exact ⟨(x5_5), (0), (by first | rfl | (simp; done) | (simp [*]; done)), H', ⟨Nat.le_refl _⟩, ⟨by (with_reducible repeat (first | apply Kd.R_alloc | apply Kd.R_drewN | apply Kd.R_drew)); exact HO_3.out⟩, ⟨by (with_reducible repeat (first | apply Kd.R_alloc | apply Kd.R_drewN | apply Kd.R_drew)); exact HO_5.out⟩, ⟨by repeat (first | (with_reducible first | exact HB.out | apply below_alloc | apply pw_below_drewN | apply below_drew1) | exact HB.out)⟩⟩
              case round =>
                clear H'
                try clear c1
                try clear p2
                try clear p3
                try clear q3
                try clear hx3
                try clear c4
                try clear c4b0
                try clear c5
                try clear c5b0
                try clear p6
                try clear c8
                try clear c8b0
                try clear c8b1
                try clear c9
                try clear hx372_0
                try clear hx372_1
                try clear hx372_2
                try clear hx372_3
                try clear hx372_4
                try clear hx373_0
                try clear hx373_1
                try clear hx373_2
                try clear hx373_3
                try clear hx373_4
                try clear p2
                try clear p3
                try clear p372
                try clear p373
                try clear p6
                try clear q3
                try clear q372
                try clear q373
                obtain ⟨x5_3, x7_3, rfl, HA, HK3, HO_3, HO_5, HB⟩ := hrel
                cases gk with
                | zero => exact absurd HA.out (by simp [lockfastref11_Blocks.l1])
                | succ k3 =>
                  have H := HA.out
                  clear HA
                  simp only [lockfastref11_Blocks.l1] at H
                  have HC11 := Aside0.mk H
                  clear H
                  go_upto_region 9 with (fail)
                  go_cut [52] (fun v52 wc => ∃ (kq : Nat) (x52_10 : Bool), v52 = .bool x52_10 ∧ Aside0 (lockfastref11_Blocks.j3 kq t368 x5_3 x6_1 x7_3 x52_10 = some r) ∧ Aside0 (kq ≤ k3) ∧ Aside0 (Kd.R k29 29 wc w.heap.size (fun _ => True) (.slice (some ad372) t368.length co7) t368) ∧ Aside0 (Kd.R k42 42 wc w.heap.size (fun _ => True) u5 x5_3) ∧ Aside0 (Below w.heap.size w wc))
                  case first =>
                    have H := HC11.out
                    clear HC11
                    by_cases c12 : 0 ≤ x6_1
                    · rw [if_pos c12] at H
                      have c12b0 : decide (0 ≤ x6_1) = true := decide_eq_true c12
                      clear c12
                      (first | rw [c12b0] | (simp only [i64_w, i32_w]; rw [c12b0]) | skip)
                      by_cases c13 : x6_1 < (t368.length : Int)
                      · rw [if_pos c13] at H
                        have c13b0 : decide (x6_1 < (t368.length : Int)) = true := decide_eq_true c13
                        clear c13
                        by_cases c14 : ((rd_T29 t368 x6_1).f0) = 1
                        · rw [if_pos c14] at H
                          have c14b0 : (((rd_T29 t368 x6_1).f0) == 1) = true := beq_iff_eq.mpr c14
                          have c14b1 : (((rd_T29 t368 x6_1).f0) != 1) = false := bne_eq_false_iff_eq.mpr c14
                          clear c14
                          replace H := Option.bind_eq_some_iff.mp H
                          obtain ⟨t379, A150, H⟩ := H
                          replace H : (lockfastref11_Blocks.j3 k3 t368 x5_3 x6_1 x7_3 (decide (x7_3 < t379))) = some r := H
                          have A15 := Aside0.mk A150
                          clear A150
                          have H' := Aside0.mk H
                          clear H
                          have p377 : 0 ≤ (x6_1 : Int) := of_decide_eq_true (by first | (with_reducible assumption) | assumption)
                          have q377 : x6_1 < (t368.length : Int) := of_decide_eq_true (by first | (with_reducible assumption) | assumption)
                          obtain ⟨ad377, e377, hx377_0, hx377_1, hx377_2, hx377_3, hx377_4⟩ := at_T29 (Kd.R_reads' HO_3.out).2.2 x6_1 p377 q377
                          obtain rfl : ad372 = ad377 := (by injection e377)
                          replace p377 := eq_true p377
                          replace q377 := eq_true q377
                          have p378 : 0 ≤ (x6_1 : Int) := of_decide_eq_true (by first | (with_reducible assumption) | assumption)
                          have q378 : x6_1 < (t368.length : Int) := of_decide_eq_true (by first | (with_reducible assumption) | assumption)
                          obtain ⟨ad378, e378, hx378_0, hx378_1, hx378_2, hx378_3, hx378_4⟩ := at_T29 (Kd.R_reads' HO_3.out).2.2 x6_1 p378 q378
                          obtain rfl : ad372 = ad378 := (by injection e378)
                          replace p378 := eq_true p378
                          replace q378 := eq_true q378
                          go_wp2_with (first | (go_at_call 26; (with_reducible refine (lockfastref09_Many.calls k3 ((rd_T29 t368 x6_1).f1) t379 _ A15.out).mono ?_); rintro e w' ⟨rfl, ⟨nd, rfl⟩⟩))
                          go_meet
                          case rel => exact ⟨_, (decide (x7_3 < t379)), (by first | rfl | (simp; done) | (simp [*]; done)), H', ⟨by have := HK1.out; have := HJ5.out; have := HK3.out; first | omega | exact Nat.le_refl _⟩, ⟨by (with_reducible repeat (first | apply Kd.R_alloc | apply Kd.R_drewN | apply Kd.R_drew)); exact HO_3.out⟩, ⟨by (with_reducible repeat (first | apply Kd.R_alloc | apply Kd.R_drewN | apply Kd.R_drew)); exact HO_5.out⟩, ⟨by repeat (first | (with_reducible first | exact HB.out | apply below_alloc | apply pw_below_drewN | apply below_drew1) | exact HB.out)⟩⟩
                        · rw [if_neg c14] at H
                          have c14b0 : (((rd_T29 t368 x6_1).f0) == 1) = false := beq_eq_false_iff_ne.mpr c14
                          have c14b1 : (((rd_T29 t368 x6_1).f0) != 1) = true := bne_iff_ne.mpr c14
                          have H' := Aside0.mk H
                          clear H
                          have p377 : 0 ≤ (x6_1 : Int) := of_decide_eq_true (by first | (with_reducible assumption) | assumption)
                          have q377 : x6_1 < (t368.length : Int) := of_decide_eq_true (by first | (with_reducible assumption) | assumption)
                          obtain ⟨ad377, e377, hx377_0, hx377_1, hx377_2, hx377_3, hx377_4⟩ := at_T29 (Kd.R_reads' HO_3.out).2.2 x6_1 p377 q377
                          obtain rfl : ad372 = ad377 := (by injection e377)
                          replace p377 := eq_true p377
                          replace q377 := eq_true q377
                          go_wp2
                          go_meet
                          case rel => exact ⟨_, (false), (by first | rfl | (simp; done) | (simp [*]; done)), H', ⟨by have := HK1.out; have := HJ5.out; have := HK3.out; first | omega | exact Nat.le_refl _⟩, ⟨by (with_reducible repeat (first | apply Kd.R_alloc | apply Kd.R_drewN | apply Kd.R_drew)); exact HO_3.out⟩, ⟨by (with_reducible repeat (first | apply Kd.R_alloc | apply Kd.R_drewN | apply Kd.R_drew)); exact HO_5.out⟩, ⟨by repeat (first | (with_reducible first | exact HB.out | apply below_alloc | apply pw_below_drewN | apply below_drew1) | exact HB.out)⟩⟩
                      · rw [if_neg c13] at H
                        exact absurd H (by simp)
                    · rw [if_neg c12] at H
                      exact absurd H (by simp)
                  case rest =>
                    clear HC11
                    try clear c1
                    try clear p2
                    try clear p3
                    try clear q3
                    try clear hx3
                    try clear c4
                    try clear c4b0
                    try clear c5
                    try clear c5b0
                    try clear p6
                    try clear c8
                    try clear c8b0
                    try clear c8b1
                    try clear c9
                    try clear c12
                    try clear c12b0
                    try clear c13
                    try clear c13b0
                    try clear c14
                    try clear c14b0
                    try clear c14b1
                    try clear hx372_0
                    try clear hx372_1
                    try clear hx372_2
                    try clear hx372_3
                    try clear hx372_4
                    try clear hx373_0
                    try clear hx373_1
                    try clear hx373_2
                    try clear hx373_3
                    try clear hx373_4
                    try clear hx377_0
                    try clear hx377_1
                    try clear hx377_2
                    try clear hx377_3
                    try clear hx377_4
                    try clear hx378_0
                    try clear hx378_1
                    try clear hx378_2
                    try clear hx378_3
                    try clear hx378_4
                    try clear p2
                    try clear p3
                    try clear p372
                    try clear p373
                    try clear p377
                    try clear p378
                    try clear p6
                    try clear q3
                    try clear q372
                    try clear q373
                    try clear q377
                    try clear q378
                    obtain ⟨kq, x52_10, rfl, HA, HJ10, HO_3, HO_5, HB⟩ := hcut
                    cases kq with
                    | zero => exact absurd HA.out (by simp [lockfastref11_Blocks.j3])
                    | succ kj10 =>
                      have H := HA.out
                      clear HA
                      simp only [lockfastref11_Blocks.j3] at H
                      by_cases c16 : x52_10 = true
                      · subst c16
                        have H1 : (if 0 ≤ x6_1 then (if x6_1 < (t368.length : Int) then ((lockfastref10_Live.f kj10 ((rd_T29 t368 x6_1).f0) ((rd_T29 t368 x6_1).f1) ((rd_T29 t368 x6_1).f2) ((rd_T29 t368 x6_1).f3) ((rd_T29 t368 x6_1).f4) x7_3).bind fun t381 => (if t381 = true then ((lockfastref09_Block.f ((rd_T29 t368 x6_1).f1)).bind fun t383 => (if x5_3.length < 5864062014805 then (lockfastref11_Blocks.l1 kj10 t368 (x5_3 ++ [(⟨x6_1, x7_3, t383⟩ : S42)]) x6_1 (wrap64 (x7_3 + 1))) else (none))) else (lockfastref11_Blocks.l1 kj10 t368 x5_3 x6_1 (wrap64 (x7_3 + 1))))) else (none)) else (none)) = some r := by rw [if_pos rfl] at H; exact H
                        clear H
                        have H := H1
                        clear H1
                        by_cases c17 : 0 ≤ x6_1
                        · rw [if_pos c17] at H
                          have c17b0 : decide (0 ≤ x6_1) = true := decide_eq_true c17
                          clear c17
                          by_cases c18 : x6_1 < (t368.length : Int)
                          · rw [if_pos c18] at H
                            have c18b0 : decide (x6_1 < (t368.length : Int)) = true := decide_eq_true c18
                            clear c18
                            replace H := Option.bind_eq_some_iff.mp H
                            obtain ⟨t381, A190, H⟩ := H
                            replace H : (if t381 = true then ((lockfastref09_Block.f ((rd_T29 t368 x6_1).f1)).bind fun t383 => (if x5_3.length < 5864062014805 then (lockfastref11_Blocks.l1 kj10 t368 (x5_3 ++ [(⟨x6_1, x7_3, t383⟩ : S42)]) x6_1 (wrap64 (x7_3 + 1))) else (none))) else (lockfastref11_Blocks.l1 kj10 t368 x5_3 x6_1 (wrap64 (x7_3 + 1)))) = some r := H
                            have A19 := Aside0.mk A190
                            clear A190
                            by_cases c20 : t381 = true
                            · subst c20
                              have H1 : ((lockfastref09_Block.f ((rd_T29 t368 x6_1).f1)).bind fun t383 => (if x5_3.length < 5864062014805 then (lockfastref11_Blocks.l1 kj10 t368 (x5_3 ++ [(⟨x6_1, x7_3, t383⟩ : S42)]) x6_1 (wrap64 (x7_3 + 1))) else (none))) = some r := by rw [if_pos rfl] at H; exact H
                              clear H
                              have H := H1
                              clear H1
                              replace H := Option.bind_eq_some_iff.mp H
                              obtain ⟨t383, A210, H⟩ := H
                              replace H : (if x5_3.length < 5864062014805 then (lockfastref11_Blocks.l1 kj10 t368 (x5_3 ++ [(⟨x6_1, x7_3, t383⟩ : S42)]) x6_1 (wrap64 (x7_3 + 1))) else (none)) = some r := H
                              have A21 := Aside0.mk A210
                              clear A210
                              by_cases c22 : x5_3.length < 5864062014805
                              · rw [if_pos c22] at H
                                have LMc22 := Aside0.mk c22
                                clear c22
                                obtain ⟨y384, hy384⟩ : ∃ y_ : List (S42), y_ = (x5_3 ++ [(⟨x6_1, x7_3, t383⟩ : S42)]) := ⟨_, rfl⟩
                                replace H : (lockfastref11_Blocks.l1 kj10 t368 y384 x6_1 (wrap64 (x7_3 + 1))) = some r := by first | (rw [hy384]; with_reducible exact H) | (have H2_ := (Option.bind_some _ _).symm.trans H; rw [hy384]; with_reducible exact H2_) | (have H2_ := (Option.bind_some _ _).symm.trans H; with_reducible exact H2_) | with_reducible exact H | (rw [hy384]; exact H) | exact H
                                have Ny384 := Aside0.mk hy384
                                clear hy384
                                have H' := Aside0.mk H
                                clear H
                                have p380 : 0 ≤ (x6_1 : Int) := of_decide_eq_true (by first | (with_reducible assumption) | assumption)
                                have q380 : x6_1 < (t368.length : Int) := of_decide_eq_true (by first | (with_reducible assumption) | assumption)
                                obtain ⟨ad380, e380, hx380_0, hx380_1, hx380_2, hx380_3, hx380_4⟩ := at_T29 (Kd.R_reads' HO_3.out).2.2 x6_1 p380 q380
                                obtain rfl : ad372 = ad380 := (by injection e380)
                                replace p380 := eq_true p380
                                replace q380 := eq_true q380
                                go_wp2_with (first | ((with_reducible refine gate_callee (f := 79) rfl ?_); refine goesL_ (some 60) rfl rfl Tryd.func79 (by kernel_rfl) rfl #[.agg #[.int .i64 ((rd_T29 t368 x6_1).f0), .int .i64 ((rd_T29 t368 x6_1).f1), .int .i64 ((rd_T29 t368 x6_1).f2), .int .i64 ((rd_T29 t368 x6_1).f3), .int .u64 ((rd_T29 t368 x6_1).f4)], .int .i64 x7_3] rfl (by (try simp only [List.map_toArray, List.map_cons, List.map_nil]); first | done | rfl | (simp only [List.length_drop, List.length_take]; rfl)) ?_; (with_reducible refine (lockfastref10_Live.calls kj10 ((rd_T29 t368 x6_1).f0) ((rd_T29 t368 x6_1).f1) ((rd_T29 t368 x6_1).f2) ((rd_T29 t368 x6_1).f3) ((rd_T29 t368 x6_1).f4) x7_3 true _ A19.out).mono ?_); rintro e w23 ⟨rfl, hb⟩; refine ⟨_, rfl, ?_⟩; have n0_ := Aside0.mk (Kd.R_below (by (with_reducible repeat (first | apply Kd.R_alloc | apply Kd.R_drewN | apply Kd.R_drew)); exact HO_3.out) hb); have n1_ := Aside0.mk (Kd.R_below (by (with_reducible repeat (first | apply Kd.R_alloc | apply Kd.R_drewN | apply Kd.R_drew)); exact HO_5.out) hb); have n2_ := Aside0.mk (below_step (by repeat (first | (with_reducible first | exact HB.out | apply below_alloc | apply pw_below_drewN | apply below_drew1) | exact HB.out)) hb); clear HO_3; clear HO_5; clear HB; have HO_3 := n0_; have HO_5 := n1_; have HB := n2_; clear n0_ n1_ n2_; (try clear hb); (try clear hb2); (try clear hk); (try clear hi); have p382 : 0 ≤ (x6_1 : Int) := of_decide_eq_true (by first | (with_reducible assumption) | assumption); have q382 : x6_1 < (t368.length : Int) := of_decide_eq_true (by first | (with_reducible assumption) | assumption); obtain ⟨ad382, e382, hx382_0, hx382_1, hx382_2, hx382_3, hx382_4⟩ := at_T29 (Kd.R_reads' HO_3.out).2.2 x6_1 p382 q382; obtain rfl : ad372 = ad382 := (by injection e382); replace p382 := eq_true p382; replace q382 := eq_true q382) | ((with_reducible refine gate_callee (f := 28) rfl ?_); refine goesL_ (some 70) rfl rfl Tryd.func28 (by kernel_rfl) rfl #[.int .i64 ((rd_T29 t368 x6_1).f1)] rfl (by (try simp only [List.map_toArray, List.map_cons, List.map_nil]); first | done | rfl | (simp only [List.length_drop, List.length_take]; rfl)) ?_; (with_reducible refine (lockfastref09_Block.calls ((rd_T29 t368 x6_1).f1) t383 _ A21.out).mono ?_); rintro e w' ⟨rfl, ⟨nd, rfl⟩⟩; refine ⟨_, rfl, ?_⟩) | ((with_reducible refine gate_builtin (b := .append) (xs := #[.tmp 62, .tmp 72]) rfl ?_); at_builtin; refine Kd.R_append k42 (w0 := w) w.heap.size rfl (.tmp 62) (.tmp 72) 39 42 (.agg #[(.int .i64 0), (.int .i64 0), (.int .i64 0)]) 24 rfl Tryd.underlying39 info42 rfl (by decide) (by omega) u5 x5_3 (⟨x6_1, x7_3, t383⟩ : S42) [.int .i64 x6_1, .int .i64 x7_3, .int .i64 t383] (fun _ => True) (fun _ => False) rfl rfl ?aP (fun _ hk => hk.elim) ?aF ?aO ?aB ?aS ?aL ?_; (case aP => exact k42_mkM _ _ _ (⟨x6_1, x7_3, t383⟩ : S42)); (case aB => exact (by repeat (first | (with_reducible first | exact HB.out | apply below_alloc | apply pw_below_drewN | apply below_drew1) | exact HB.out))); (case aF => exact (fun _ _ => trivial)); (case aO => exact (by (with_reducible repeat (first | apply Kd.R_alloc | apply Kd.R_drewN | apply Kd.R_drew)); exact HO_5.out)); (case aS => exact (below_size (by repeat (first | (with_reducible first | exact HB.out | apply below_alloc | apply pw_below_drewN | apply below_drew1) | exact HB.out)))); (case aL => have := LMc22.out; omega); intro v385 w24 ho hb hg hat; rw [← Ny384.out] at ho; have n0_ := Aside0.mk (Kd.R_over' (by (with_reducible repeat (first | apply Kd.R_alloc | apply Kd.R_drewN | apply Kd.R_drew)); exact HO_3.out) (Kd.R_typed (by (with_reducible repeat (first | apply Kd.R_alloc | apply Kd.R_drewN | apply Kd.R_drew)); exact HO_5.out)) (by decide) hg); have n1_ := Aside0.mk (hb); have n2_ := Aside0.mk (ho); clear HO_3; clear HB; clear HO_5; have HO_3 := n0_; have HB := n1_; have HO386 := n2_; clear n0_ n1_ n2_; clear ho hb hg hat))
                                go_roundg kj10
                                case measure => have := HK1.out; have := HJ5.out; have := HK3.out; have := HJ10.out; omega
                                case rel => exact ⟨(y384), (wrap64 (x7_3 + 1)), (by first | rfl | (simp; done) | (simp [*]; done)), H', ⟨by have := HK1.out; have := HJ5.out; have := HK3.out; have := HJ10.out; omega⟩, ⟨by (with_reducible repeat (first | apply Kd.R_alloc | apply Kd.R_drewN | apply Kd.R_drew)); exact HO_3.out⟩, ⟨by (with_reducible repeat (first | apply Kd.R_alloc | apply Kd.R_drewN | apply Kd.R_drew)); exact HO386.out⟩, ⟨by repeat (first | (with_reducible first | exact HB.out | apply below_alloc | apply pw_below_drewN | apply below_drew1) | exact HB.out)⟩⟩
                              · rw [if_neg c22] at H
                                exact absurd H (by simp)
                            · replace c20 := Bool.eq_false_iff.mpr c20
                              subst c20
                              have H1 : (lockfastref11_Blocks.l1 kj10 t368 x5_3 x6_1 (wrap64 (x7_3 + 1))) = some r := by rw [if_neg (show ¬ (false = true) by decide)] at H; exact H
                              clear H
                              have H := H1
                              clear H1
                              have H' := Aside0.mk H
                              clear H
                              have p380 : 0 ≤ (x6_1 : Int) := of_decide_eq_true (by first | (with_reducible assumption) | assumption)
                              have q380 : x6_1 < (t368.length : Int) := of_decide_eq_true (by first | (with_reducible assumption) | assumption)
                              obtain ⟨ad380, e380, hx380_0, hx380_1, hx380_2, hx380_3, hx380_4⟩ := at_T29 (Kd.R_reads' HO_3.out).2.2 x6_1 p380 q380
                              obtain rfl : ad372 = ad380 := (by injection e380)
                              replace p380 := eq_true p380
                              replace q380 := eq_true q380
                              go_wp2_with (first | ((with_reducible refine gate_callee (f := 79) rfl ?_); refine goesL_ (some 60) rfl rfl Tryd.func79 (by kernel_rfl) rfl #[.agg #[.int .i64 ((rd_T29 t368 x6_1).f0), .int .i64 ((rd_T29 t368 x6_1).f1), .int .i64 ((rd_T29 t368 x6_1).f2), .int .i64 ((rd_T29 t368 x6_1).f3), .int .u64 ((rd_T29 t368 x6_1).f4)], .int .i64 x7_3] rfl (by (try simp only [List.map_toArray, List.map_cons, List.map_nil]); first | done | rfl | (simp only [List.length_drop, List.length_take]; rfl)) ?_; (with_reducible refine (lockfastref10_Live.calls kj10 ((rd_T29 t368 x6_1).f0) ((rd_T29 t368 x6_1).f1) ((rd_T29 t368 x6_1).f2) ((rd_T29 t368 x6_1).f3) ((rd_T29 t368 x6_1).f4) x7_3 false _ A19.out).mono ?_); rintro e w25 ⟨rfl, hb⟩; refine ⟨_, rfl, ?_⟩; have n0_ := Aside0.mk (Kd.R_below (by (with_reducible repeat (first | apply Kd.R_alloc | apply Kd.R_drewN | apply Kd.R_drew)); exact HO_3.out) hb); have n1_ := Aside0.mk (Kd.R_below (by (with_reducible repeat (first | apply Kd.R_alloc | apply Kd.R_drewN | apply Kd.R_drew)); exact HO_5.out) hb); have n2_ := Aside0.mk (below_step (by repeat (first | (with_reducible first | exact HB.out | apply below_alloc | apply pw_below_drewN | apply below_drew1) | exact HB.out)) hb); clear HO_3; clear HO_5; clear HB; have HO_3 := n0_; have HO_5 := n1_; have HB := n2_; clear n0_ n1_ n2_; (try clear hb); (try clear hb2); (try clear hk); (try clear hi)))
                              go_roundg kj10
                              case measure => have := HK1.out; have := HJ5.out; have := HK3.out; have := HJ10.out; omega
                              case rel => exact ⟨(x5_3), (wrap64 (x7_3 + 1)), (by first | rfl | (simp; done) | (simp [*]; done)), H', ⟨by have := HK1.out; have := HJ5.out; have := HK3.out; have := HJ10.out; omega⟩, ⟨by (with_reducible repeat (first | apply Kd.R_alloc | apply Kd.R_drewN | apply Kd.R_drew)); exact HO_3.out⟩, ⟨by (with_reducible repeat (first | apply Kd.R_alloc | apply Kd.R_drewN | apply Kd.R_drew)); exact HO_5.out⟩, ⟨by repeat (first | (with_reducible first | exact HB.out | apply below_alloc | apply pw_below_drewN | apply below_drew1) | exact HB.out)⟩⟩
                          · rw [if_neg c18] at H
                            exact absurd H (by simp)
                        · rw [if_neg c17] at H
                          exact absurd H (by simp)
                      · replace c16 := Bool.eq_false_iff.mpr c16
                        subst c16
                        have H1 : (lockfastref11_Blocks.l0 kj10 t368 x5_3 (wrap64 (x6_1 + 1))) = some r := by rw [if_neg (show ¬ (false = true) by decide)] at H; exact H
                        clear H
                        have H := H1
                        clear H1
                        have H' := Aside0.mk H
                        clear H
                        go_wp2
                        go_roundg kj10
                        case measure => have := HK1.out; have := HJ5.out; have := HK3.out; have := HJ10.out; omega
                        case rel => exact ⟨(x5_3), (wrap64 (x6_1 + 1)), (by first | rfl | (simp; done) | (simp [*]; done)), H', ⟨by have := HK1.out; have := HJ5.out; have := HK3.out; have := HJ10.out; omega⟩, ⟨by (with_reducible repeat (first | apply Kd.R_alloc | apply Kd.R_drewN | apply Kd.R_drew)); exact HO_3.out⟩, ⟨by (with_reducible repeat (first | apply Kd.R_alloc | apply Kd.R_drewN | apply Kd.R_drew)); exact HO_5.out⟩, ⟨by repeat (first | (with_reducible first | exact HB.out | apply below_alloc | apply pw_below_drewN | apply below_drew1) | exact HB.out)⟩⟩
        · rw [if_neg c5] at H
          exact absurd H (by simp)
      · rw [if_neg c4] at H
        have c4b0 : decide (x6_1 < (t368.length : Int)) = false := decide_eq_false c4
        clear c4
        obtain rfl := Option.some.inj H
        obtain ⟨Ao26, co26, eo26⟩ := Kd.R_slice HO_3.out
        subst eo26
        go_wp2
        go_ret
        exact ⟨_, by first | rfl | (simp [errW_none, errW_some] <;> rfl) | (simp [*, errW_none, errW_some] <;> rfl), by (with_reducible repeat (first | apply Kd.R_alloc | apply Kd.R_drewN | apply Kd.R_drew)); exact HO_5.out, by repeat (first | (with_reducible first | exact HB.out | apply below_alloc | apply pw_below_drewN | apply below_drew1) | exact HB.out)⟩

/-! ### lockfastref11_May: function 86 -/
def lockfastref11_May.f (a0_0 : Int) (a0_1 : Int) (a0_2 : Int) (a0_3 : Int) (a0_4 : Int) : Option (Bool) := if a0_0 = 0 then (some true) else (if a0_0 = 1 then (some (a0_4 == 0)) else (some false))
set_option maxHeartbeats 8000000 in
set_option maxRecDepth 100000 in
theorem lockfastref11_May.calls (a0_0 : Int) (a0_1 : Int) (a0_2 : Int) (a0_3 : Int) (a0_4 : Int) (r : Bool) (w : World) (h : lockfastref11_May.f a0_0 a0_1 a0_2 a0_3 a0_4 = some r) :
    Calls Tryd.prog 86 #[.agg #[.int .i64 a0_0, .int .i64 a0_1, .int .i64 a0_2, .int .i64 a0_3, .int .u64 a0_4]] w fun e w' => e = .returned (.bool r) ∧ Below w.heap.size w w' := by
  have hu29 := Tryd.underlying29
  have HB := Aside0.mk (Below.refl w.heap.size w)
  have H : (if a0_0 = 0 then (some true) else (if a0_0 = 1 then (some (a0_4 == 0)) else (some false))) = some r := h
  clear h
  by_cases c2 : a0_0 = 0
  · rw [if_pos c2] at H
    have c2b0 : (a0_0 == 0) = true := beq_iff_eq.mpr c2
    have c2b1 : (a0_0 != 0) = false := bne_eq_false_iff_eq.mpr c2
    clear c2
    obtain rfl := Option.some.inj H
    go_enter Tryd.func86, Tryd.ntmps86
    go_wp2_with (first | ((with_reducible refine gate_dst (N := 1) rfl ?_); refine box_event ?hg (N := 1) ?hd (cs := #[.int .i64 a0_0, .int .i64 a0_1, .int .i64 a0_2, .int .i64 a0_3, .int .u64 a0_4]) (t := 29) ?hr ?_; (case hd => rfl); (case hg => rfl); (case hr => first | (go_simp; done) | (go_simp; rfl)); intro gb387 hg w3 hbox hb; have n0_ := Aside0.mk (below_step (by repeat (first | (with_reducible first | exact HB.out | apply below_alloc | apply pw_below_drewN | apply below_drew1) | exact HB.out)) hb); have n1_ := Aside0.mk (hbox); have n2_ := Aside0.mk ((by rw [hg]; exact (below_size (by repeat (first | (with_reducible first | exact HB.out | apply below_alloc | apply pw_below_drewN | apply below_drew1) | exact HB.out))) : w.heap.size ≤ gb387)); have n3_ := Aside0.mk ((by rw [hg]; exact (below_size (by repeat (first | (with_reducible first | exact HB.out | apply below_alloc | apply pw_below_drewN | apply below_drew1) | exact HB.out))) : w.heap.size ≤ gb387)); clear HB; have HB := n0_; have BK387 := n1_; have GW387 := n2_; have GE387 := n3_; clear n0_ n1_ n2_ n3_; clear hb hbox hg; have hcz4_0 : w3.cell? ⟨gb387, 0, none⟩ = some (.int .i64 a0_0) := (blk_cell BK387.out 0).trans rfl; have hcz4_1 : w3.cell? ⟨gb387, 1, none⟩ = some (.int .i64 a0_1) := (blk_cell BK387.out 1).trans rfl; have hcz4_2 : w3.cell? ⟨gb387, 2, none⟩ = some (.int .i64 a0_2) := (blk_cell BK387.out 2).trans rfl; have hcz4_3 : w3.cell? ⟨gb387, 3, none⟩ = some (.int .i64 a0_3) := (blk_cell BK387.out 3).trans rfl; have hcz4_4 : w3.cell? ⟨gb387, 4, none⟩ = some (.int .u64 a0_4) := (blk_cell BK387.out 4).trans rfl; have hfz4_0 := blk_frozen BK387.out 0; have hfz4_1 := blk_frozen BK387.out 1; have hfz4_2 := blk_frozen BK387.out 2; have hfz4_3 := blk_frozen BK387.out 3; have hfz4_4 := blk_frozen BK387.out 4))
    go_ret
    exact ⟨by first | rfl | (simp [errW_none, errW_some] <;> rfl) | (simp [*, errW_none, errW_some] <;> rfl), by repeat (first | (with_reducible first | exact HB.out | apply below_alloc | apply pw_below_drewN | apply below_drew1 | refine below_set ?_ GE387.out) | exact HB.out)⟩
  · rw [if_neg c2] at H
    have c2b0 : (a0_0 == 0) = false := beq_eq_false_iff_ne.mpr c2
    have c2b1 : (a0_0 != 0) = true := bne_iff_ne.mpr c2
    by_cases c5 : a0_0 = 1
    · rw [if_pos c5] at H
      have c5b0 : (a0_0 == 1) = true := beq_iff_eq.mpr c5
      have c5b1 : (a0_0 != 1) = false := bne_eq_false_iff_eq.mpr c5
      clear c5
      obtain rfl := Option.some.inj H
      go_enter Tryd.func86, Tryd.ntmps86
      go_wp2_with (first | ((with_reducible refine gate_dst (N := 1) rfl ?_); refine box_event ?hg (N := 1) ?hd (cs := #[.int .i64 a0_0, .int .i64 a0_1, .int .i64 a0_2, .int .i64 a0_3, .int .u64 a0_4]) (t := 29) ?hr ?_; (case hd => rfl); (case hg => rfl); (case hr => first | (go_simp; done) | (go_simp; rfl)); intro gb387 hg w6 hbox hb; have n0_ := Aside0.mk (below_step (by repeat (first | (with_reducible first | exact HB.out | apply below_alloc | apply pw_below_drewN | apply below_drew1) | exact HB.out)) hb); have n1_ := Aside0.mk (hbox); have n2_ := Aside0.mk ((by rw [hg]; exact (below_size (by repeat (first | (with_reducible first | exact HB.out | apply below_alloc | apply pw_below_drewN | apply below_drew1) | exact HB.out))) : w.heap.size ≤ gb387)); have n3_ := Aside0.mk ((by rw [hg]; exact (below_size (by repeat (first | (with_reducible first | exact HB.out | apply below_alloc | apply pw_below_drewN | apply below_drew1) | exact HB.out))) : w.heap.size ≤ gb387)); clear HB; have HB := n0_; have BK387 := n1_; have GW387 := n2_; have GE387 := n3_; clear n0_ n1_ n2_ n3_; clear hb hbox hg; have hcz7_0 : w6.cell? ⟨gb387, 0, none⟩ = some (.int .i64 a0_0) := (blk_cell BK387.out 0).trans rfl; have hcz7_1 : w6.cell? ⟨gb387, 1, none⟩ = some (.int .i64 a0_1) := (blk_cell BK387.out 1).trans rfl; have hcz7_2 : w6.cell? ⟨gb387, 2, none⟩ = some (.int .i64 a0_2) := (blk_cell BK387.out 2).trans rfl; have hcz7_3 : w6.cell? ⟨gb387, 3, none⟩ = some (.int .i64 a0_3) := (blk_cell BK387.out 3).trans rfl; have hcz7_4 : w6.cell? ⟨gb387, 4, none⟩ = some (.int .u64 a0_4) := (blk_cell BK387.out 4).trans rfl; have hfz7_0 := blk_frozen BK387.out 0; have hfz7_1 := blk_frozen BK387.out 1; have hfz7_2 := blk_frozen BK387.out 2; have hfz7_3 := blk_frozen BK387.out 3; have hfz7_4 := blk_frozen BK387.out 4))
      go_ret
      exact ⟨by first | rfl | (simp [errW_none, errW_some] <;> rfl) | (simp [*, errW_none, errW_some] <;> rfl), by repeat (first | (with_reducible first | exact HB.out | apply below_alloc | apply pw_below_drewN | apply below_drew1 | refine below_set ?_ GE387.out) | exact HB.out)⟩
    · rw [if_neg c5] at H
      have c5b0 : (a0_0 == 1) = false := beq_eq_false_iff_ne.mpr c5
      have c5b1 : (a0_0 != 1) = true := bne_iff_ne.mpr c5
      obtain rfl := Option.some.inj H
      go_enter Tryd.func86, Tryd.ntmps86
      go_wp2_with (first | ((with_reducible refine gate_dst (N := 1) rfl ?_); refine box_event ?hg (N := 1) ?hd (cs := #[.int .i64 a0_0, .int .i64 a0_1, .int .i64 a0_2, .int .i64 a0_3, .int .u64 a0_4]) (t := 29) ?hr ?_; (case hd => rfl); (case hg => rfl); (case hr => first | (go_simp; done) | (go_simp; rfl)); intro gb387 hg w8 hbox hb; have n0_ := Aside0.mk (below_step (by repeat (first | (with_reducible first | exact HB.out | apply below_alloc | apply pw_below_drewN | apply below_drew1) | exact HB.out)) hb); have n1_ := Aside0.mk (hbox); have n2_ := Aside0.mk ((by rw [hg]; exact (below_size (by repeat (first | (with_reducible first | exact HB.out | apply below_alloc | apply pw_below_drewN | apply below_drew1) | exact HB.out))) : w.heap.size ≤ gb387)); have n3_ := Aside0.mk ((by rw [hg]; exact (below_size (by repeat (first | (with_reducible first | exact HB.out | apply below_alloc | apply pw_below_drewN | apply below_drew1) | exact HB.out))) : w.heap.size ≤ gb387)); clear HB; have HB := n0_; have BK387 := n1_; have GW387 := n2_; have GE387 := n3_; clear n0_ n1_ n2_ n3_; clear hb hbox hg; have hcz9_0 : w8.cell? ⟨gb387, 0, none⟩ = some (.int .i64 a0_0) := (blk_cell BK387.out 0).trans rfl; have hcz9_1 : w8.cell? ⟨gb387, 1, none⟩ = some (.int .i64 a0_1) := (blk_cell BK387.out 1).trans rfl; have hcz9_2 : w8.cell? ⟨gb387, 2, none⟩ = some (.int .i64 a0_2) := (blk_cell BK387.out 2).trans rfl; have hcz9_3 : w8.cell? ⟨gb387, 3, none⟩ = some (.int .i64 a0_3) := (blk_cell BK387.out 3).trans rfl; have hcz9_4 : w8.cell? ⟨gb387, 4, none⟩ = some (.int .u64 a0_4) := (blk_cell BK387.out 4).trans rfl; have hfz9_0 := blk_frozen BK387.out 0; have hfz9_1 := blk_frozen BK387.out 1; have hfz9_2 := blk_frozen BK387.out 2; have hfz9_3 := blk_frozen BK387.out 3; have hfz9_4 := blk_frozen BK387.out 4))
      go_ret
      exact ⟨by first | rfl | (simp [errW_none, errW_some] <;> rfl) | (simp [*, errW_none, errW_some] <;> rfl), by repeat (first | (with_reducible first | exact HB.out | apply below_alloc | apply pw_below_drewN | apply below_drew1 | refine below_set ?_ GE387.out) | exact HB.out)⟩

/-! ### lockfastref11_Rows: function 54 -/
mutual
def lockfastref11_Rows.l0 : Nat → List (S29) → List (S36) → Int → Option ((List (S36)))
  | 0, _, _, _ => none
  | k + 1, x3, x5, x6 => if x6 < (x3.length : Int) then (lockfastref11_Rows.l1 k x3 x5 x6 x6) else (some x5)
def lockfastref11_Rows.l1 : Nat → List (S29) → List (S36) → Int → Int → Option ((List (S36)))
  | 0, _, _, _, _ => none
  | k + 1, x3, x5, x6, x7 => if x7 < (x3.length : Int) then (if 0 ≤ x7 then ((lockfastref11_May.f ((rd_T29 x3 x7).f0) ((rd_T29 x3 x7).f1) ((rd_T29 x3 x7).f2) ((rd_T29 x3 x7).f3) ((rd_T29 x3 x7).f4)).bind fun t393 => (if t393 = true then (lockfastref11_Rows.l1 k x3 x5 x6 (wrap64 (x7 + 1))) else (if x7 > x6 then (if x5.length < 8796093022208 then (lockfastref11_Rows.l0 k x3 (x5 ++ [(⟨x6, wrap64 (x7 - x6)⟩ : S36)]) (wrap64 (x7 + 1))) else (none)) else (lockfastref11_Rows.l0 k x3 x5 (wrap64 (x7 + 1)))))) else (none)) else (if x7 > x6 then (if x5.length < 8796093022208 then (lockfastref11_Rows.l0 k x3 (x5 ++ [(⟨x6, wrap64 (x7 - x6)⟩ : S36)]) (wrap64 (x7 + 1))) else (none)) else (lockfastref11_Rows.l0 k x3 x5 (wrap64 (x7 + 1))))
end
def lockfastref11_Rows.f (k : Nat) (l0 : List Int) : Option ((List (S36))) := (lockfastref11_Chunks.f k l0).bind fun bt388 => (lockfastref11_Rows.l0 k bt388.1 ([] : List (S36)) 0)
theorem lockfastref11_Rows.mono_l : ∀ k, (∀ y0 y1 y2, LeO (lockfastref11_Rows.l0 k y0 y1 y2) (lockfastref11_Rows.l0 (k + 1) y0 y1 y2)) ∧ (∀ y0 y1 y2 y3, LeO (lockfastref11_Rows.l1 k y0 y1 y2 y3) (lockfastref11_Rows.l1 (k + 1) y0 y1 y2 y3))
  | 0 => ⟨fun _ _ _ r h => by simp [lockfastref11_Rows.l0] at h, fun _ _ _ _ r h => by simp [lockfastref11_Rows.l1] at h⟩
  | k + 1 => by
    obtain ⟨ih0, ih1⟩ := lockfastref11_Rows.mono_l k
    refine ⟨?_, ?_⟩
    · intro y0 y1 y2
      unfold lockfastref11_Rows.l0
      repeat' first
      | (with_reducible exact ih0 _ _ _)
      | (with_reducible exact ih1 _ _ _ _)
      | (with_reducible exact lockfastref11_Chunks.mono _ _)
      | (with_reducible exact LeO.refl _)
      | (with_reducible exact LeO.none _)
      | (with_reducible refine LeO.ite ?_ ?_)
      | (with_reducible refine LeO.bind ?_ (fun _ => ?_))
      | exact ih0 _ _ _
      | exact ih1 _ _ _ _
      | exact lockfastref11_Chunks.mono _ _
      | exact LeO.none _
      | refine LeO.ite ?_ ?_
      | refine LeO.bind ?_ (fun _ => ?_)
    · intro y0 y1 y2 y3
      unfold lockfastref11_Rows.l1
      repeat' first
      | (with_reducible exact ih0 _ _ _)
      | (with_reducible exact ih1 _ _ _ _)
      | (with_reducible exact lockfastref11_Chunks.mono _ _)
      | (with_reducible exact LeO.refl _)
      | (with_reducible exact LeO.none _)
      | (with_reducible refine LeO.ite ?_ ?_)
      | (with_reducible refine LeO.bind ?_ (fun _ => ?_))
      | exact ih0 _ _ _
      | exact ih1 _ _ _ _
      | exact lockfastref11_Chunks.mono _ _
      | exact LeO.none _
      | refine LeO.ite ?_ ?_
      | refine LeO.bind ?_ (fun _ => ?_)
theorem lockfastref11_Rows.mono : ∀ a0 k, LeO (lockfastref11_Rows.f k a0) (lockfastref11_Rows.f (k + 1) a0) := by
  intro a0 k
  obtain ⟨ih0, ih1⟩ := lockfastref11_Rows.mono_l k
  unfold lockfastref11_Rows.f
  repeat' first
      | (with_reducible exact ih0 _ _ _)
      | (with_reducible exact ih1 _ _ _ _)
      | (with_reducible exact lockfastref11_Chunks.mono _ _)
      | (with_reducible exact LeO.refl _)
      | (with_reducible exact LeO.none _)
      | (with_reducible refine LeO.ite ?_ ?_)
      | (with_reducible refine LeO.bind ?_ (fun _ => ?_))
      | exact ih0 _ _ _
      | exact ih1 _ _ _ _
      | exact lockfastref11_Chunks.mono _ _
      | exact LeO.none _
      | refine LeO.ite ?_ ?_
      | refine LeO.bind ?_ (fun _ => ?_)
set_option maxHeartbeats 8000000 in
set_option maxRecDepth 100000 in
theorem lockfastref11_Rows.calls (k : Nat) (A0 : Option Addr) (c0 : Nat) (l0 : List Int) (r : List (S36)) (w : World) (hr0 : Kd.C (Kd.int .u64) w A0 l0.length l0) (hc0 : l0.length ≤ c0) (h : lockfastref11_Rows.f k l0 = some r) :
    Calls Tryd.prog 54 #[.slice A0 l0.length c0] w fun e w' => ∃ v0_ : Value, e = .returned (v0_) ∧ Kd.R k36 36 w' w.heap.size (fun _ => True) v0_ r ∧ Below w.heap.size w w' := by
  have hu29 := Tryd.underlying29
  have hu36 := Tryd.underlying36
  have HR0 := Aside0.mk hr0
  have HC0 := Aside0.mk hc0
  clear hr0 hc0
  have HB := Aside0.mk (Below.refl w.heap.size w)
  have H : ((lockfastref11_Chunks.f k l0).bind fun bt388 => (lockfastref11_Rows.l0 k bt388.1 ([] : List (S36)) 0)) = some r := h
  clear h
  replace H := Option.bind_eq_some_iff.mp H
  obtain ⟨⟨t388, t389⟩, A20, H⟩ := H
  replace H : (lockfastref11_Rows.l0 k t388 ([] : List (S36)) 0) = some r := H
  have A2 := Aside0.mk A20
  clear A20
  have H' := Aside0.mk H
  clear H
  go_enter Tryd.func54, Tryd.ntmps54
  go_wp2_with (first | ((with_reducible refine gate_callee (f := 17) rfl ?_); refine goesL_ (some 10) rfl rfl Tryd.func17 (by kernel_rfl) rfl #[.slice A0 l0.length c0] rfl (by (try simp only [List.map_toArray, List.map_cons, List.map_nil]); first | done | rfl | (simp only [List.length_drop, List.length_take]; rfl)) ?_; (with_reducible refine (lockfastref11_Chunks.calls k _ _ l0 t388 t389 _ ?side1 ?side2 A2.out).mono ?_); (case side1 => repeat (first | exact HR0.out | (with_reducible refine Kd.C_alloc ?_ _) | (with_reducible refine Kd.C_drewN ?_ _) | (with_reducible refine Kd.C_drew ?_))); (case side2 => exact HC0.out); rintro e w3 ⟨v390, rfl, ho0, hb⟩; refine ⟨_, rfl, ?_⟩; have n0_ := Aside0.mk (Kd.R_lower ho0 (below_size (by repeat (first | (with_reducible first | exact HB.out | apply below_alloc | apply pw_below_drewN | apply below_drew1) | exact HB.out)))); have n1_ := Aside0.mk (below_step (by repeat (first | (with_reducible first | exact HB.out | apply below_alloc | apply pw_below_drewN | apply below_drew1) | exact HB.out)) hb); clear HB; have HO391 := n0_; have HB := n1_; clear n0_ n1_; (try clear hb); (try clear hb2); (try clear hk); (try clear hi); (try clear ho0)))
  go_loopg [5, 6] k (fun kq v5 v6 w' => ∃ (x5_1 : List (S36)) (x6_1 : Int), v6 = .int .i64 x6_1 ∧ Aside0 (lockfastref11_Rows.l0 kq t388 x5_1 x6_1 = some r) ∧ Aside0 (kq ≤ k) ∧ Aside0 (Kd.R k29 29 w' w.heap.size (fun _ => True) v390 t388) ∧ Aside0 (Kd.R k36 36 w' w.heap.size (fun _ => True) v5 x5_1) ∧ Aside0 (Below w.heap.size w w'))
  case atStart => exact ⟨(([] : List (S36))), (0), (by first | rfl | (simp; done) | (simp [*]; done)), H', ⟨Nat.le_refl _⟩, ⟨by (with_reducible repeat (first | apply Kd.R_alloc | apply Kd.R_drewN | apply Kd.R_drew)); exact HO391.out⟩, ⟨by first | exact Kd.R_nil _ _ _ _ _ | exact Kd.N_nil _ _ _ _ _ | exact Kd.V_nil _ _ _ _ _ | exact Kd.Q_nil _ _ _ _ _ | exact Kd.S_nil _ _ _ _ _⟩, ⟨by repeat (first | (with_reducible first | exact HB.out | apply below_alloc | apply pw_below_drewN | apply below_drew1) | exact HB.out)⟩⟩
  case round =>
    clear H'
    try clear c1
    try clear p2
    obtain ⟨x5_1, x6_1, rfl, HA, HK1, HO_3, HO_5, HB⟩ := hrel
    cases gk with
    | zero => exact absurd HA.out (by simp [lockfastref11_Rows.l0])
    | succ k1 =>
      have H := HA.out
      clear HA
      simp only [lockfastref11_Rows.l0] at H
      by_cases c4 : x6_1 < (t388.length : Int)
      · rw [if_pos c4] at H
        have c4b0 : decide (x6_1 < (t388.length : Int)) = true := decide_eq_true c4
        clear c4
        have H' := Aside0.mk H
        clear H
        obtain ⟨Ao5, co5, eo5⟩ := Kd.R_slice HO_3.out
        subst eo5
        go_wp2
        go_loopg [7] k1 (fun kq v7 w' => ∃ (x7_2 : Int), v7 = .int .i64 x7_2 ∧ Aside0 (lockfastref11_Rows.l1 kq t388 x5_1 x6_1 x7_2 = some r) ∧ Aside0 (kq ≤ k1) ∧ Aside0 (Kd.R k29 29 w' w.heap.size (fun _ => True) (.slice Ao5 t388.length co5) t388) ∧ Aside0 (Kd.R k36 36 w' w.heap.size (fun _ => True) u5 x5_1) ∧ Aside0 (Below w.heap.size w w'))
        case atStart => exact ⟨(x6_1), (by first | rfl | (simp; done) | (simp [*]; done)), H', ⟨Nat.le_refl _⟩, ⟨by (with_reducible repeat (first | apply Kd.R_alloc | apply Kd.R_drewN | apply Kd.R_drew)); exact HO_3.out⟩, ⟨by (with_reducible repeat (first | apply Kd.R_alloc | apply Kd.R_drewN | apply Kd.R_drew)); exact HO_5.out⟩, ⟨by repeat (first | (with_reducible first | exact HB.out | apply below_alloc | apply pw_below_drewN | apply below_drew1) | exact HB.out)⟩⟩
        case round =>
          clear H'
          try clear c1
          try clear p2
          try clear c4
          try clear c4b0
          try clear c5
          try clear p2
          obtain ⟨x7_2, rfl, HA, HK2, HO_3, HO_5, HB⟩ := hrel
          cases gk with
          | zero => exact absurd HA.out (by simp [lockfastref11_Rows.l1])
          | succ k2 =>
            have H := HA.out
            clear HA
            simp only [lockfastref11_Rows.l1] at H
            by_cases c6 : x7_2 < (t388.length : Int)
            · rw [if_pos c6] at H
              have c6b0 : decide (x7_2 < (t388.length : Int)) = true := decide_eq_true c6
              clear c6
              by_cases c7 : 0 ≤ x7_2
              · rw [if_pos c7] at H
                have c7b0 : decide (0 ≤ x7_2) = true := decide_eq_true c7
                clear c7
                replace H := Option.bind_eq_some_iff.mp H
                obtain ⟨t393, A80, H⟩ := H
                replace H : (if t393 = true then (lockfastref11_Rows.l1 k2 t388 x5_1 x6_1 (wrap64 (x7_2 + 1))) else (if x7_2 > x6_1 then (if x5_1.length < 8796093022208 then (lockfastref11_Rows.l0 k2 t388 (x5_1 ++ [(⟨x6_1, wrap64 (x7_2 - x6_1)⟩ : S36)]) (wrap64 (x7_2 + 1))) else (none)) else (lockfastref11_Rows.l0 k2 t388 x5_1 (wrap64 (x7_2 + 1))))) = some r := H
                have A8 := Aside0.mk A80
                clear A80
                by_cases c9 : t393 = true
                · subst c9
                  have H1 : (lockfastref11_Rows.l1 k2 t388 x5_1 x6_1 (wrap64 (x7_2 + 1))) = some r := by rw [if_pos rfl] at H; exact H
                  clear H
                  have H := H1
                  clear H1
                  have H' := Aside0.mk H
                  clear H
                  have p392 : 0 ≤ (x7_2 : Int) := of_decide_eq_true (by first | (with_reducible assumption) | assumption)
                  have q392 : x7_2 < (t388.length : Int) := of_decide_eq_true (by first | (with_reducible assumption) | assumption)
                  obtain ⟨ad392, e392, hx392_0, hx392_1, hx392_2, hx392_3, hx392_4⟩ := at_T29 (Kd.R_reads' HO_3.out).2.2 x7_2 p392 q392
                  cases e392
                  replace p392 := eq_true p392
                  replace q392 := eq_true q392
                  go_wp2_with (first | (go_at_call 86; (with_reducible refine (lockfastref11_May.calls ((rd_T29 t388 x7_2).f0) ((rd_T29 t388 x7_2).f1) ((rd_T29 t388 x7_2).f2) ((rd_T29 t388 x7_2).f3) ((rd_T29 t388 x7_2).f4) true _ A8.out).mono ?_); rintro e w10 ⟨rfl, hb⟩; have n0_ := Aside0.mk (Kd.R_below (by (with_reducible repeat (first | apply Kd.R_alloc | apply Kd.R_drewN | apply Kd.R_drew)); exact HO_3.out) hb); have n1_ := Aside0.mk (Kd.R_below (by (with_reducible repeat (first | apply Kd.R_alloc | apply Kd.R_drewN | apply Kd.R_drew)); exact HO_5.out) hb); have n2_ := Aside0.mk (below_step (by repeat (first | (with_reducible first | exact HB.out | apply below_alloc | apply pw_below_drewN | apply below_drew1) | exact HB.out)) hb); clear HO_3; clear HO_5; clear HB; have HO_3 := n0_; have HO_5 := n1_; have HB := n2_; clear n0_ n1_ n2_; (try clear hb); (try clear hb2); (try clear hk); (try clear hi)))
                  go_roundg k2
                  case measure => have := HK1.out; have := HK2.out; omega
                  case rel => exact ⟨(wrap64 (x7_2 + 1)), (by first | rfl | (simp; done) | (simp [*]; done)), H', ⟨by have := HK1.out; have := HK2.out; omega⟩, ⟨by (with_reducible repeat (first | apply Kd.R_alloc | apply Kd.R_drewN | apply Kd.R_drew)); exact HO_3.out⟩, ⟨by (with_reducible repeat (first | apply Kd.R_alloc | apply Kd.R_drewN | apply Kd.R_drew)); exact HO_5.out⟩, ⟨by repeat (first | (with_reducible first | exact HB.out | apply below_alloc | apply pw_below_drewN | apply below_drew1) | exact HB.out)⟩⟩
                · replace c9 := Bool.eq_false_iff.mpr c9
                  subst c9
                  have H1 : (if x7_2 > x6_1 then (if x5_1.length < 8796093022208 then (lockfastref11_Rows.l0 k2 t388 (x5_1 ++ [(⟨x6_1, wrap64 (x7_2 - x6_1)⟩ : S36)]) (wrap64 (x7_2 + 1))) else (none)) else (lockfastref11_Rows.l0 k2 t388 x5_1 (wrap64 (x7_2 + 1)))) = some r := by rw [if_neg (show ¬ (false = true) by decide)] at H; exact H
                  clear H
                  have H := H1
                  clear H1
                  by_cases c11 : x7_2 > x6_1
                  · rw [if_pos c11] at H
                    have c11b0 : decide (x6_1 < x7_2) = true := decide_eq_true c11
                    clear c11
                    by_cases c12 : x5_1.length < 8796093022208
                    · rw [if_pos c12] at H
                      have LMc12 := Aside0.mk c12
                      clear c12
                      obtain ⟨y394, hy394⟩ : ∃ y_ : List (S36), y_ = (x5_1 ++ [(⟨x6_1, wrap64 (x7_2 - x6_1)⟩ : S36)]) := ⟨_, rfl⟩
                      replace H : (lockfastref11_Rows.l0 k2 t388 y394 (wrap64 (x7_2 + 1))) = some r := by first | (rw [hy394]; with_reducible exact H) | (have H2_ := (Option.bind_some _ _).symm.trans H; rw [hy394]; with_reducible exact H2_) | (have H2_ := (Option.bind_some _ _).symm.trans H; with_reducible exact H2_) | with_reducible exact H | (rw [hy394]; exact H) | exact H
                      have Ny394 := Aside0.mk hy394
                      clear hy394
                      have H' := Aside0.mk H
                      clear H
                      have p392 : 0 ≤ (x7_2 : Int) := of_decide_eq_true (by first | (with_reducible assumption) | assumption)
                      have q392 : x7_2 < (t388.length : Int) := of_decide_eq_true (by first | (with_reducible assumption) | assumption)
                      obtain ⟨ad392, e392, hx392_0, hx392_1, hx392_2, hx392_3, hx392_4⟩ := at_T29 (Kd.R_reads' HO_3.out).2.2 x7_2 p392 q392
                      cases e392
                      replace p392 := eq_true p392
                      replace q392 := eq_true q392
                      go_wp2_with (first | (go_at_call 86; (with_reducible refine (lockfastref11_May.calls ((rd_T29 t388 x7_2).f0) ((rd_T29 t388 x7_2).f1) ((rd_T29 t388 x7_2).f2) ((rd_T29 t388 x7_2).f3) ((rd_T29 t388 x7_2).f4) false _ A8.out).mono ?_); rintro e w13 ⟨rfl, hb⟩; have n0_ := Aside0.mk (Kd.R_below (by (with_reducible repeat (first | apply Kd.R_alloc | apply Kd.R_drewN | apply Kd.R_drew)); exact HO_3.out) hb); have n1_ := Aside0.mk (Kd.R_below (by (with_reducible repeat (first | apply Kd.R_alloc | apply Kd.R_drewN | apply Kd.R_drew)); exact HO_5.out) hb); have n2_ := Aside0.mk (below_step (by repeat (first | (with_reducible first | exact HB.out | apply below_alloc | apply pw_below_drewN | apply below_drew1) | exact HB.out)) hb); clear HO_3; clear HO_5; clear HB; have HO_3 := n0_; have HO_5 := n1_; have HB := n2_; clear n0_ n1_ n2_; (try clear hb); (try clear hb2); (try clear hk); (try clear hi)) | ((with_reducible refine gate_builtin (b := .append) (xs := #[.tmp 34, .tmp 40]) rfl ?_); at_builtin; refine Kd.R_append k36 (w0 := w) w.heap.size rfl (.tmp 34) (.tmp 40) 33 36 (.agg #[(.int .i64 0), (.int .i64 0)]) 16 rfl Tryd.underlying33 info36 rfl (by decide) (by omega) u5 x5_1 (⟨x6_1, wrap64 (x7_2 - x6_1)⟩ : S36) [.int .i64 x6_1, .int .i64 (wrap64 (x7_2 - x6_1))] (fun _ => True) (fun _ => False) rfl rfl ?aP (fun _ hk => hk.elim) ?aF ?aO ?aB ?aS ?aL ?_; (case aP => exact k36_mkM _ _ _ (⟨x6_1, wrap64 (x7_2 - x6_1)⟩ : S36)); (case aB => exact (by repeat (first | (with_reducible first | exact HB.out | apply below_alloc | apply pw_below_drewN | apply below_drew1) | exact HB.out))); (case aF => exact (fun _ _ => trivial)); (case aO => exact (by (with_reducible repeat (first | apply Kd.R_alloc | apply Kd.R_drewN | apply Kd.R_drew)); exact HO_5.out)); (case aS => exact (below_size (by repeat (first | (with_reducible first | exact HB.out | apply below_alloc | apply pw_below_drewN | apply below_drew1) | exact HB.out)))); (case aL => have := LMc12.out; omega); intro v395 w14 ho hb hg hat; rw [← Ny394.out] at ho; have n0_ := Aside0.mk (Kd.R_over' (by (with_reducible repeat (first | apply Kd.R_alloc | apply Kd.R_drewN | apply Kd.R_drew)); exact HO_3.out) (Kd.R_typed (by (with_reducible repeat (first | apply Kd.R_alloc | apply Kd.R_drewN | apply Kd.R_drew)); exact HO_5.out)) (by decide) hg); have n1_ := Aside0.mk (hb); have n2_ := Aside0.mk (ho); clear HO_3; clear HB; clear HO_5; have HO_3 := n0_; have HB := n1_; have HO396 := n2_; clear n0_ n1_ n2_; clear ho hb hg hat))
                      go_roundg k2
                      case measure => have := HK1.out; have := HK2.out; omega
                      case rel => exact ⟨(y394), (wrap64 (x7_2 + 1)), (by first | rfl | (simp; done) | (simp [*]; done)), H', ⟨by have := HK1.out; have := HK2.out; omega⟩, ⟨by (with_reducible repeat (first | apply Kd.R_alloc | apply Kd.R_drewN | apply Kd.R_drew)); exact HO_3.out⟩, ⟨by (with_reducible repeat (first | apply Kd.R_alloc | apply Kd.R_drewN | apply Kd.R_drew)); exact HO396.out⟩, ⟨by repeat (first | (with_reducible first | exact HB.out | apply below_alloc | apply pw_below_drewN | apply below_drew1) | exact HB.out)⟩⟩
                    · rw [if_neg c12] at H
                      exact absurd H (by simp)
                  · rw [if_neg c11] at H
                    have c11b0 : decide (x6_1 < x7_2) = false := decide_eq_false c11
                    clear c11
                    have H' := Aside0.mk H
                    clear H
                    have p392 : 0 ≤ (x7_2 : Int) := of_decide_eq_true (by first | (with_reducible assumption) | assumption)
                    have q392 : x7_2 < (t388.length : Int) := of_decide_eq_true (by first | (with_reducible assumption) | assumption)
                    obtain ⟨ad392, e392, hx392_0, hx392_1, hx392_2, hx392_3, hx392_4⟩ := at_T29 (Kd.R_reads' HO_3.out).2.2 x7_2 p392 q392
                    cases e392
                    replace p392 := eq_true p392
                    replace q392 := eq_true q392
                    go_wp2_with (first | (go_at_call 86; (with_reducible refine (lockfastref11_May.calls ((rd_T29 t388 x7_2).f0) ((rd_T29 t388 x7_2).f1) ((rd_T29 t388 x7_2).f2) ((rd_T29 t388 x7_2).f3) ((rd_T29 t388 x7_2).f4) false _ A8.out).mono ?_); rintro e w15 ⟨rfl, hb⟩; have n0_ := Aside0.mk (Kd.R_below (by (with_reducible repeat (first | apply Kd.R_alloc | apply Kd.R_drewN | apply Kd.R_drew)); exact HO_3.out) hb); have n1_ := Aside0.mk (Kd.R_below (by (with_reducible repeat (first | apply Kd.R_alloc | apply Kd.R_drewN | apply Kd.R_drew)); exact HO_5.out) hb); have n2_ := Aside0.mk (below_step (by repeat (first | (with_reducible first | exact HB.out | apply below_alloc | apply pw_below_drewN | apply below_drew1) | exact HB.out)) hb); clear HO_3; clear HO_5; clear HB; have HO_3 := n0_; have HO_5 := n1_; have HB := n2_; clear n0_ n1_ n2_; (try clear hb); (try clear hb2); (try clear hk); (try clear hi)))
                    go_roundg k2
                    case measure => have := HK1.out; have := HK2.out; omega
                    case rel => exact ⟨(x5_1), (wrap64 (x7_2 + 1)), (by first | rfl | (simp; done) | (simp [*]; done)), H', ⟨by have := HK1.out; have := HK2.out; omega⟩, ⟨by (with_reducible repeat (first | apply Kd.R_alloc | apply Kd.R_drewN | apply Kd.R_drew)); exact HO_3.out⟩, ⟨by (with_reducible repeat (first | apply Kd.R_alloc | apply Kd.R_drewN | apply Kd.R_drew)); exact HO_5.out⟩, ⟨by repeat (first | (with_reducible first | exact HB.out | apply below_alloc | apply pw_below_drewN | apply below_drew1) | exact HB.out)⟩⟩
              · rw [if_neg c7] at H
                exact absurd H (by simp)
            · rw [if_neg c6] at H
              have c6b0 : decide (x7_2 < (t388.length : Int)) = false := decide_eq_false c6
              clear c6
              by_cases c16 : x7_2 > x6_1
              · rw [if_pos c16] at H
                have c16b0 : decide (x6_1 < x7_2) = true := decide_eq_true c16
                clear c16
                by_cases c17 : x5_1.length < 8796093022208
                · rw [if_pos c17] at H
                  have LMc17 := Aside0.mk c17
                  clear c17
                  obtain ⟨y397, hy397⟩ : ∃ y_ : List (S36), y_ = (x5_1 ++ [(⟨x6_1, wrap64 (x7_2 - x6_1)⟩ : S36)]) := ⟨_, rfl⟩
                  replace H : (lockfastref11_Rows.l0 k2 t388 y397 (wrap64 (x7_2 + 1))) = some r := by first | (rw [hy397]; with_reducible exact H) | (have H2_ := (Option.bind_some _ _).symm.trans H; rw [hy397]; with_reducible exact H2_) | (have H2_ := (Option.bind_some _ _).symm.trans H; with_reducible exact H2_) | with_reducible exact H | (rw [hy397]; exact H) | exact H
                  have Ny397 := Aside0.mk hy397
                  clear hy397
                  have H' := Aside0.mk H
                  clear H
                  go_wp2_with (first | ((with_reducible refine gate_builtin (b := .append) (xs := #[.tmp 34, .tmp 40]) rfl ?_); at_builtin; refine Kd.R_append k36 (w0 := w) w.heap.size rfl (.tmp 34) (.tmp 40) 33 36 (.agg #[(.int .i64 0), (.int .i64 0)]) 16 rfl Tryd.underlying33 info36 rfl (by decide) (by omega) u5 x5_1 (⟨x6_1, wrap64 (x7_2 - x6_1)⟩ : S36) [.int .i64 x6_1, .int .i64 (wrap64 (x7_2 - x6_1))] (fun _ => True) (fun _ => False) rfl rfl ?aP (fun _ hk => hk.elim) ?aF ?aO ?aB ?aS ?aL ?_; (case aP => exact k36_mkM _ _ _ (⟨x6_1, wrap64 (x7_2 - x6_1)⟩ : S36)); (case aB => exact (by repeat (first | (with_reducible first | exact HB.out | apply below_alloc | apply pw_below_drewN | apply below_drew1) | exact HB.out))); (case aF => exact (fun _ _ => trivial)); (case aO => exact (by (with_reducible repeat (first | apply Kd.R_alloc | apply Kd.R_drewN | apply Kd.R_drew)); exact HO_5.out)); (case aS => exact (below_size (by repeat (first | (with_reducible first | exact HB.out | apply below_alloc | apply pw_below_drewN | apply below_drew1) | exact HB.out)))); (case aL => have := LMc17.out; omega); intro v398 w18 ho hb hg hat; rw [← Ny397.out] at ho; have n0_ := Aside0.mk (Kd.R_over' (by (with_reducible repeat (first | apply Kd.R_alloc | apply Kd.R_drewN | apply Kd.R_drew)); exact HO_3.out) (Kd.R_typed (by (with_reducible repeat (first | apply Kd.R_alloc | apply Kd.R_drewN | apply Kd.R_drew)); exact HO_5.out)) (by decide) hg); have n1_ := Aside0.mk (hb); have n2_ := Aside0.mk (ho); clear HO_3; clear HB; clear HO_5; have HO_3 := n0_; have HB := n1_; have HO399 := n2_; clear n0_ n1_ n2_; clear ho hb hg hat))
                  go_roundg k2
                  case measure => have := HK1.out; have := HK2.out; omega
                  case rel => exact ⟨(y397), (wrap64 (x7_2 + 1)), (by first | rfl | (simp; done) | (simp [*]; done)), H', ⟨by have := HK1.out; have := HK2.out; omega⟩, ⟨by (with_reducible repeat (first | apply Kd.R_alloc | apply Kd.R_drewN | apply Kd.R_drew)); exact HO_3.out⟩, ⟨by (with_reducible repeat (first | apply Kd.R_alloc | apply Kd.R_drewN | apply Kd.R_drew)); exact HO399.out⟩, ⟨by repeat (first | (with_reducible first | exact HB.out | apply below_alloc | apply pw_below_drewN | apply below_drew1) | exact HB.out)⟩⟩
                · rw [if_neg c17] at H
                  exact absurd H (by simp)
              · rw [if_neg c16] at H
                have c16b0 : decide (x6_1 < x7_2) = false := decide_eq_false c16
                clear c16
                have H' := Aside0.mk H
                clear H
                go_wp2
                go_roundg k2
                case measure => have := HK1.out; have := HK2.out; omega
                case rel => exact ⟨(x5_1), (wrap64 (x7_2 + 1)), (by first | rfl | (simp; done) | (simp [*]; done)), H', ⟨by have := HK1.out; have := HK2.out; omega⟩, ⟨by (with_reducible repeat (first | apply Kd.R_alloc | apply Kd.R_drewN | apply Kd.R_drew)); exact HO_3.out⟩, ⟨by (with_reducible repeat (first | apply Kd.R_alloc | apply Kd.R_drewN | apply Kd.R_drew)); exact HO_5.out⟩, ⟨by repeat (first | (with_reducible first | exact HB.out | apply below_alloc | apply pw_below_drewN | apply below_drew1) | exact HB.out)⟩⟩
      · rw [if_neg c4] at H
        have c4b0 : decide (x6_1 < (t388.length : Int)) = false := decide_eq_false c4
        clear c4
        obtain rfl := Option.some.inj H
        obtain ⟨Ao19, co19, eo19⟩ := Kd.R_slice HO_3.out
        subst eo19
        go_wp2
        go_ret
        exact ⟨_, by first | rfl | (simp [errW_none, errW_some] <;> rfl) | (simp [*, errW_none, errW_some] <;> rfl), by (with_reducible repeat (first | apply Kd.R_alloc | apply Kd.R_drewN | apply Kd.R_drew)); exact HO_5.out, by repeat (first | (with_reducible first | exact HB.out | apply below_alloc | apply pw_below_drewN | apply below_drew1) | exact HB.out)⟩

end Go.Proofs.YtflbmccjfnkflaaDoor.Q
