-- Written by lfprint.py of this session's own, by way of the kit's print.py; with hand-made contracts.
import Derived.Test.YtlbgepadkaehiaaDoorQx0
import Derived.Test.YtlbgepadkaehiaaDoorQx19
namespace Go.Proofs.YtlbgepadkaehiaaDoor.Q
open Go.RowKit Go.Proofs.YtlbgepadkaehiaaDoorW.PrintWords Go.Proofs.YtlbgepadkaehiaaDoorW.PrintLast Go.Proofs.YtlbgepadkaehiaaDoorW.PrintMore
attribute [local go_sem] max2_int min2_int max_two min_two max_three min_three max_four min_four   -- for this text's walks alone
set_option linter.unusedVariables false
set_option linter.unusedSimpArgs false

/-! ### lockfastref08_Text: function 14 -/
def lockfastref08_Text.j0 : Nat → Bool → Int → Int → Int → Option (ByteArray)
  | 0, _, _, _, _ => none
  | k + 1, x10, x200000, x200001, x200002 => if x10 = true then (some (⟨#[]⟩ : ByteArray)) else ((lockfastref08_digits.f (IntKind.u64.wrap (x200000))).bind fun t200 => (if t200.size + 1 ≤ 9223372036854775807 then ((lockfastref08_digits.f (IntKind.u64.wrap (x200001))).bind fun t201 => (if (t200 ++ (⟨#[46]⟩ : ByteArray)).size + t201.size ≤ 9223372036854775807 then (if ((t200 ++ (⟨#[46]⟩ : ByteArray)) ++ t201).size + 1 ≤ 9223372036854775807 then ((lockfastref08_digits.f x200002).bind fun t202 => (if (((t200 ++ (⟨#[46]⟩ : ByteArray)) ++ t201) ++ (⟨#[46]⟩ : ByteArray)).size + t202.size ≤ 9223372036854775807 then (some ((((t200 ++ (⟨#[46]⟩ : ByteArray)) ++ t201) ++ (⟨#[46]⟩ : ByteArray)) ++ t202)) else (none))) else (none)) else (none))) else (none)))
def lockfastref08_Text.f (k : Nat) (a0_0 : Int) (a0_1 : Int) (a0_2 : Int) : Option (ByteArray) := if a0_0 < 0 then (lockfastref08_Text.j0 k true a0_0 a0_1 a0_2) else (lockfastref08_Text.j0 k (decide (a0_1 < 0)) a0_0 a0_1 a0_2)
theorem lockfastref08_Text.mono_l : ∀ k, (∀ y0 y1 y2 y3, LeO (lockfastref08_Text.j0 k y0 y1 y2 y3) (lockfastref08_Text.j0 (k + 1) y0 y1 y2 y3))
  | 0 => fun _ _ _ _ r h => by simp [lockfastref08_Text.j0] at h
  | k + 1 => by
    have ih0 := lockfastref08_Text.mono_l k
    · intro y0 y1 y2 y3
      unfold lockfastref08_Text.j0
      repeat' first
      | (with_reducible exact ih0 _ _ _ _)
      | (with_reducible exact LeO.refl _)
      | (with_reducible exact LeO.none _)
      | (with_reducible refine LeO.ite ?_ ?_)
      | (with_reducible refine LeO.bind ?_ (fun _ => ?_))
      | exact ih0 _ _ _ _
      | exact LeO.none _
      | refine LeO.ite ?_ ?_
      | refine LeO.bind ?_ (fun _ => ?_)
theorem lockfastref08_Text.mono : ∀ a0 a1 a2 k, LeO (lockfastref08_Text.f k a0 a1 a2) (lockfastref08_Text.f (k + 1) a0 a1 a2) := by
  intro a0 a1 a2 k
  have ih0 := lockfastref08_Text.mono_l k
  unfold lockfastref08_Text.f
  repeat' first
      | (with_reducible exact ih0 _ _ _ _)
      | (with_reducible exact LeO.refl _)
      | (with_reducible exact LeO.none _)
      | (with_reducible refine LeO.ite ?_ ?_)
      | (with_reducible refine LeO.bind ?_ (fun _ => ?_))
      | exact ih0 _ _ _ _
      | exact LeO.none _
      | refine LeO.ite ?_ ?_
      | refine LeO.bind ?_ (fun _ => ?_)
set_option maxHeartbeats 8000000 in
set_option maxRecDepth 100000 in
theorem lockfastref08_Text.calls (k : Nat) (a0_0 : Int) (a0_1 : Int) (a0_2 : Int) (r : ByteArray) (w : World) (h : lockfastref08_Text.f k a0_0 a0_1 a0_2 = some r) :
    Calls Tryd.prog 14 #[.agg #[.int .i64 a0_0, .int .i64 a0_1, .int .u64 a0_2]] w fun e w' => e = .returned (.string r) ∧ Below w.heap.size w w' := by
  have hu24 := Tryd.underlying24
  have HB := Aside0.mk (Below.refl w.heap.size w)
  have H : (if a0_0 < 0 then (lockfastref08_Text.j0 k true a0_0 a0_1 a0_2) else (lockfastref08_Text.j0 k (decide (a0_1 < 0)) a0_0 a0_1 a0_2)) = some r := h
  clear h
  have HC2 := Aside0.mk H
  clear H
  go_enter Tryd.func14, Tryd.ntmps14
  go_upto_region 1 with (first | ((with_reducible refine gate_dst (N := 1) rfl ?_); refine box_event ?hg (N := 1) ?hd (cs := #[.int .i64 a0_0, .int .i64 a0_1, .int .u64 a0_2]) (t := 24) ?hr ?_; (case hd => rfl); (case hg => rfl); (case hr => first | (go_simp; done) | (go_simp; rfl)); intro gb199 hg w3 hbox hb; have n0_ := Aside0.mk (below_step (by repeat (first | (with_reducible first | exact HB.out | apply below_alloc | apply pw_below_drewN | apply below_drew1) | exact HB.out)) hb); have n1_ := Aside0.mk (hbox); have n2_ := Aside0.mk ((by rw [hg]; exact (below_size (by repeat (first | (with_reducible first | exact HB.out | apply below_alloc | apply pw_below_drewN | apply below_drew1) | exact HB.out))) : w.heap.size ≤ gb199)); have n3_ := Aside0.mk ((by rw [hg]; exact (below_size (by repeat (first | (with_reducible first | exact HB.out | apply below_alloc | apply pw_below_drewN | apply below_drew1) | exact HB.out))) : w.heap.size ≤ gb199)); clear HB; have HB := n0_; have BK199 := n1_; have GW199 := n2_; have GE199 := n3_; clear n0_ n1_ n2_ n3_; clear hb hbox hg))
  repeat (go_quiet (first | ((with_reducible refine gate_dst (N := 1) rfl ?_); refine box_event ?hg (N := 1) ?hd (cs := #[.int .i64 a0_0, .int .i64 a0_1, .int .u64 a0_2]) (t := 24) ?hr ?_; (case hd => rfl); (case hg => rfl); (case hr => first | (go_simp; done) | (go_simp; rfl)); intro gb199 hg w3 hbox hb; have n0_ := Aside0.mk (below_step (by repeat (first | (with_reducible first | exact HB.out | apply below_alloc | apply pw_below_drewN | apply below_drew1) | exact HB.out)) hb); have n1_ := Aside0.mk (hbox); have n2_ := Aside0.mk ((by rw [hg]; exact (below_size (by repeat (first | (with_reducible first | exact HB.out | apply below_alloc | apply pw_below_drewN | apply below_drew1) | exact HB.out))) : w.heap.size ≤ gb199)); have n3_ := Aside0.mk ((by rw [hg]; exact (below_size (by repeat (first | (with_reducible first | exact HB.out | apply below_alloc | apply pw_below_drewN | apply below_drew1) | exact HB.out))) : w.heap.size ≤ gb199)); clear HB; have HB := n0_; have BK199 := n1_; have GW199 := n2_; have GE199 := n3_; clear n0_ n1_ n2_ n3_; clear hb hbox hg)); go_upto_region 1 with (first | ((with_reducible refine gate_dst (N := 1) rfl ?_); refine box_event ?hg (N := 1) ?hd (cs := #[.int .i64 a0_0, .int .i64 a0_1, .int .u64 a0_2]) (t := 24) ?hr ?_; (case hd => rfl); (case hg => rfl); (case hr => first | (go_simp; done) | (go_simp; rfl)); intro gb199 hg w3 hbox hb; have n0_ := Aside0.mk (below_step (by repeat (first | (with_reducible first | exact HB.out | apply below_alloc | apply pw_below_drewN | apply below_drew1) | exact HB.out)) hb); have n1_ := Aside0.mk (hbox); have n2_ := Aside0.mk ((by rw [hg]; exact (below_size (by repeat (first | (with_reducible first | exact HB.out | apply below_alloc | apply pw_below_drewN | apply below_drew1) | exact HB.out))) : w.heap.size ≤ gb199)); have n3_ := Aside0.mk ((by rw [hg]; exact (below_size (by repeat (first | (with_reducible first | exact HB.out | apply below_alloc | apply pw_below_drewN | apply below_drew1) | exact HB.out))) : w.heap.size ≤ gb199)); clear HB; have HB := n0_; have BK199 := n1_; have GW199 := n2_; have GE199 := n3_; clear n0_ n1_ n2_ n3_; clear hb hbox hg)))
  (try simp only [Act.put, List.setIfInBounds_toArray, List.set_cons_zero, List.set_cons_succ])
  go_cut [10] (fun v10 wc => ∃ (kq : Nat) (x10_1 : Bool), v10 = .bool x10_1 ∧ Aside0 (lockfastref08_Text.j0 kq x10_1 a0_0 a0_1 a0_2 = some r) ∧ Aside0 (kq ≤ k) ∧ Aside0 (wc.heap[gb199]? = some (.cells #[.int .i64 a0_0, .int .i64 a0_1, .int .u64 a0_2] 24 (0, 0))) ∧ Aside0 (Below w.heap.size w wc))
  case first =>
    have H := HC2.out
    clear HC2
    by_cases c4 : a0_0 < 0
    · rw [if_pos c4] at H
      have c4b0 : decide (a0_0 < 0) = true := decide_eq_true c4
      clear c4
      (first | rw [c4b0] | (simp only [i64_w, i32_w]; rw [c4b0]) | skip)
      have H' := Aside0.mk H
      clear H
      have hcz5_0 : w3.cell? ⟨gb199, 0, none⟩ = some (.int .i64 a0_0) := (blk_cell BK199.out 0).trans rfl
      have hcz5_1 : w3.cell? ⟨gb199, 1, none⟩ = some (.int .i64 a0_1) := (blk_cell BK199.out 1).trans rfl
      have hcz5_2 : w3.cell? ⟨gb199, 2, none⟩ = some (.int .u64 a0_2) := (blk_cell BK199.out 2).trans rfl
      have hfz5_0 := blk_frozen BK199.out 0
      have hfz5_1 := blk_frozen BK199.out 1
      have hfz5_2 := blk_frozen BK199.out 2
      go_wp2
      repeat (go_quiet (fail); try go_wp2)
      go_meet
      case rel => exact ⟨_, (true), (by first | rfl | (simp; done) | (simp [*]; done)), H', ⟨by first | omega | exact Nat.le_refl _⟩, ⟨by (with_reducible repeat (first | refine blk_drewN ?_ _ | refine blk_drew ?_ | refine blk_alloc ?_ _)); exact BK199.out⟩, ⟨by repeat (first | (with_reducible first | exact HB.out | apply below_alloc | apply pw_below_drewN | apply below_drew1 | refine below_set ?_ GE199.out) | exact HB.out)⟩⟩
    · rw [if_neg c4] at H
      have c4b0 : decide (a0_0 < 0) = false := decide_eq_false c4
      clear c4
      (first | rw [c4b0] | (simp only [i64_w, i32_w]; rw [c4b0]) | skip)
      have H' := Aside0.mk H
      clear H
      have hcz6_0 : w3.cell? ⟨gb199, 0, none⟩ = some (.int .i64 a0_0) := (blk_cell BK199.out 0).trans rfl
      have hcz6_1 : w3.cell? ⟨gb199, 1, none⟩ = some (.int .i64 a0_1) := (blk_cell BK199.out 1).trans rfl
      have hcz6_2 : w3.cell? ⟨gb199, 2, none⟩ = some (.int .u64 a0_2) := (blk_cell BK199.out 2).trans rfl
      have hfz6_0 := blk_frozen BK199.out 0
      have hfz6_1 := blk_frozen BK199.out 1
      have hfz6_2 := blk_frozen BK199.out 2
      go_wp2
      repeat (go_quiet (fail); try go_wp2)
      go_meet
      case rel => exact ⟨_, (decide (a0_1 < 0)), (by first | rfl | (simp; done) | (simp [*]; done)), H', ⟨by first | omega | exact Nat.le_refl _⟩, ⟨by (with_reducible repeat (first | refine blk_drewN ?_ _ | refine blk_drew ?_ | refine blk_alloc ?_ _)); exact BK199.out⟩, ⟨by repeat (first | (with_reducible first | exact HB.out | apply below_alloc | apply pw_below_drewN | apply below_drew1 | refine below_set ?_ GE199.out) | exact HB.out)⟩⟩
  case rest =>
    clear HC2
    try clear c1
    try clear p2
    try clear c4
    try clear c4b0
    try clear hcz5_0
    try clear hcz5_1
    try clear hcz5_2
    try clear hcz6_0
    try clear hcz6_1
    try clear hcz6_2
    try clear hfz5_0
    try clear hfz5_1
    try clear hfz5_2
    try clear hfz6_0
    try clear hfz6_1
    try clear hfz6_2
    obtain ⟨kq, x10_1, rfl, HA, HJ1, BK199, HB⟩ := hcut
    cases kq with
    | zero => exact absurd HA.out (by simp [lockfastref08_Text.j0])
    | succ kj1 =>
      have H := HA.out
      clear HA
      simp only [lockfastref08_Text.j0] at H
      by_cases c7 : x10_1 = true
      · subst c7
        have H1 : (some (⟨#[]⟩ : ByteArray)) = some r := by rw [if_pos rfl] at H; exact H
        clear H
        have H := H1
        clear H1
        obtain rfl := Option.some.inj H
        go_wp2
        repeat (go_quiet (fail); try go_wp2)
        go_ret
        exact ⟨by first | rfl | (simp [errW_none, errW_some] <;> rfl) | (simp [*, errW_none, errW_some] <;> rfl), by repeat (first | (with_reducible first | exact HB.out | apply below_alloc | apply pw_below_drewN | apply below_drew1 | refine below_set ?_ GE199.out) | exact HB.out)⟩
      · replace c7 := Bool.eq_false_iff.mpr c7
        subst c7
        have H1 : ((lockfastref08_digits.f (IntKind.u64.wrap (a0_0))).bind fun t200 => (if t200.size + 1 ≤ 9223372036854775807 then ((lockfastref08_digits.f (IntKind.u64.wrap (a0_1))).bind fun t201 => (if (t200 ++ (⟨#[46]⟩ : ByteArray)).size + t201.size ≤ 9223372036854775807 then (if ((t200 ++ (⟨#[46]⟩ : ByteArray)) ++ t201).size + 1 ≤ 9223372036854775807 then ((lockfastref08_digits.f a0_2).bind fun t202 => (if (((t200 ++ (⟨#[46]⟩ : ByteArray)) ++ t201) ++ (⟨#[46]⟩ : ByteArray)).size + t202.size ≤ 9223372036854775807 then (some ((((t200 ++ (⟨#[46]⟩ : ByteArray)) ++ t201) ++ (⟨#[46]⟩ : ByteArray)) ++ t202)) else (none))) else (none)) else (none))) else (none))) = some r := by rw [if_neg (show ¬ (false = true) by decide)] at H; exact H
        clear H
        have H := H1
        clear H1
        replace H := Option.bind_eq_some_iff.mp H
        obtain ⟨t200, A80, H⟩ := H
        replace H : (if t200.size + 1 ≤ 9223372036854775807 then ((lockfastref08_digits.f (IntKind.u64.wrap (a0_1))).bind fun t201 => (if (t200 ++ (⟨#[46]⟩ : ByteArray)).size + t201.size ≤ 9223372036854775807 then (if ((t200 ++ (⟨#[46]⟩ : ByteArray)) ++ t201).size + 1 ≤ 9223372036854775807 then ((lockfastref08_digits.f a0_2).bind fun t202 => (if (((t200 ++ (⟨#[46]⟩ : ByteArray)) ++ t201) ++ (⟨#[46]⟩ : ByteArray)).size + t202.size ≤ 9223372036854775807 then (some ((((t200 ++ (⟨#[46]⟩ : ByteArray)) ++ t201) ++ (⟨#[46]⟩ : ByteArray)) ++ t202)) else (none))) else (none)) else (none))) else (none)) = some r := H
        have A8 := Aside0.mk A80
        clear A80
        by_cases c9 : t200.size + 1 ≤ 9223372036854775807
        · rw [if_pos c9] at H
          have c9b0 := eq_true c9
          have c9b1 : decide (t200.size + 1 ≤ 9223372036854775807) = true := decide_eq_true c9
          try have c9b2 : (9223372036854775807 < t200.size + 1) = False := eq_false (Nat.not_lt.2 c9)
          try have c9b3 := c9b2
          try simp only [ByteArray.size_append, show (⟨#[46]⟩ : ByteArray).size = 1 from rfl] at c9b3
          replace H := Option.bind_eq_some_iff.mp H
          obtain ⟨t201, A100, H⟩ := H
          replace H : (if (t200 ++ (⟨#[46]⟩ : ByteArray)).size + t201.size ≤ 9223372036854775807 then (if ((t200 ++ (⟨#[46]⟩ : ByteArray)) ++ t201).size + 1 ≤ 9223372036854775807 then ((lockfastref08_digits.f a0_2).bind fun t202 => (if (((t200 ++ (⟨#[46]⟩ : ByteArray)) ++ t201) ++ (⟨#[46]⟩ : ByteArray)).size + t202.size ≤ 9223372036854775807 then (some ((((t200 ++ (⟨#[46]⟩ : ByteArray)) ++ t201) ++ (⟨#[46]⟩ : ByteArray)) ++ t202)) else (none))) else (none)) else (none)) = some r := H
          have A10 := Aside0.mk A100
          clear A100
          by_cases c11 : (t200 ++ (⟨#[46]⟩ : ByteArray)).size + t201.size ≤ 9223372036854775807
          · rw [if_pos c11] at H
            have c11b0 := eq_true c11
            have c11b1 : decide ((t200 ++ (⟨#[46]⟩ : ByteArray)).size + t201.size ≤ 9223372036854775807) = true := decide_eq_true c11
            try have c11b2 : (9223372036854775807 < (t200 ++ (⟨#[46]⟩ : ByteArray)).size + t201.size) = False := eq_false (Nat.not_lt.2 c11)
            try have c11b3 := c11b2
            try simp only [ByteArray.size_append, show (⟨#[46]⟩ : ByteArray).size = 1 from rfl] at c11b3
            by_cases c12 : ((t200 ++ (⟨#[46]⟩ : ByteArray)) ++ t201).size + 1 ≤ 9223372036854775807
            · rw [if_pos c12] at H
              have c12b0 := eq_true c12
              have c12b1 : decide (((t200 ++ (⟨#[46]⟩ : ByteArray)) ++ t201).size + 1 ≤ 9223372036854775807) = true := decide_eq_true c12
              try have c12b2 : (9223372036854775807 < ((t200 ++ (⟨#[46]⟩ : ByteArray)) ++ t201).size + 1) = False := eq_false (Nat.not_lt.2 c12)
              try have c12b3 := c12b2
              try simp only [ByteArray.size_append, show (⟨#[46]⟩ : ByteArray).size = 1 from rfl] at c12b3
              replace H := Option.bind_eq_some_iff.mp H
              obtain ⟨t202, A130, H⟩ := H
              replace H : (if (((t200 ++ (⟨#[46]⟩ : ByteArray)) ++ t201) ++ (⟨#[46]⟩ : ByteArray)).size + t202.size ≤ 9223372036854775807 then (some ((((t200 ++ (⟨#[46]⟩ : ByteArray)) ++ t201) ++ (⟨#[46]⟩ : ByteArray)) ++ t202)) else (none)) = some r := H
              have A13 := Aside0.mk A130
              clear A130
              by_cases c14 : (((t200 ++ (⟨#[46]⟩ : ByteArray)) ++ t201) ++ (⟨#[46]⟩ : ByteArray)).size + t202.size ≤ 9223372036854775807
              · rw [if_pos c14] at H
                have c14b0 := eq_true c14
                have c14b1 : decide ((((t200 ++ (⟨#[46]⟩ : ByteArray)) ++ t201) ++ (⟨#[46]⟩ : ByteArray)).size + t202.size ≤ 9223372036854775807) = true := decide_eq_true c14
                try have c14b2 : (9223372036854775807 < (((t200 ++ (⟨#[46]⟩ : ByteArray)) ++ t201) ++ (⟨#[46]⟩ : ByteArray)).size + t202.size) = False := eq_false (Nat.not_lt.2 c14)
                try have c14b3 := c14b2
                try simp only [ByteArray.size_append, show (⟨#[46]⟩ : ByteArray).size = 1 from rfl] at c14b3
                obtain rfl := Option.some.inj H
                have hcz15_0 : wc.cell? ⟨gb199, 0, none⟩ = some (.int .i64 a0_0) := (blk_cell BK199.out 0).trans rfl
                have hcz15_1 : wc.cell? ⟨gb199, 1, none⟩ = some (.int .i64 a0_1) := (blk_cell BK199.out 1).trans rfl
                have hcz15_2 : wc.cell? ⟨gb199, 2, none⟩ = some (.int .u64 a0_2) := (blk_cell BK199.out 2).trans rfl
                have hfz15_0 := blk_frozen BK199.out 0
                have hfz15_1 := blk_frozen BK199.out 1
                have hfz15_2 := blk_frozen BK199.out 2
                go_wp2_with (first | (go_at_call 26; (with_reducible refine (lockfastref08_digits.calls (IntKind.u64.wrap (a0_0)) t200 _ A8.out).mono ?_); rintro e w' ⟨rfl, ⟨nd, rfl⟩⟩; (try first | exact ⟨rfl, _, World.drewN_drewN _ _ _⟩ | exact ⟨rfl, _, Eq.trans (World.drewN_drewN _ _ _) (congrArg (World.drewN _) (Nat.add_assoc _ _ _))⟩)) | (go_at_call 26; (with_reducible refine (lockfastref08_digits.calls (IntKind.u64.wrap (a0_1)) t201 _ A10.out).mono ?_); rintro e w' ⟨rfl, ⟨nd, rfl⟩⟩; (try first | exact ⟨rfl, _, World.drewN_drewN _ _ _⟩ | exact ⟨rfl, _, Eq.trans (World.drewN_drewN _ _ _) (congrArg (World.drewN _) (Nat.add_assoc _ _ _))⟩)) | (go_at_call 26; (with_reducible refine (lockfastref08_digits.calls a0_2 t202 _ A13.out).mono ?_); rintro e w' ⟨rfl, ⟨nd, rfl⟩⟩; (try first | exact ⟨rfl, _, World.drewN_drewN _ _ _⟩ | exact ⟨rfl, _, Eq.trans (World.drewN_drewN _ _ _) (congrArg (World.drewN _) (Nat.add_assoc _ _ _))⟩)))
                repeat (go_quiet (first | (go_at_call 26; (with_reducible refine (lockfastref08_digits.calls (IntKind.u64.wrap (a0_0)) t200 _ A8.out).mono ?_); rintro e w' ⟨rfl, ⟨nd, rfl⟩⟩; (try first | exact ⟨rfl, _, World.drewN_drewN _ _ _⟩ | exact ⟨rfl, _, Eq.trans (World.drewN_drewN _ _ _) (congrArg (World.drewN _) (Nat.add_assoc _ _ _))⟩)) | (go_at_call 26; (with_reducible refine (lockfastref08_digits.calls (IntKind.u64.wrap (a0_1)) t201 _ A10.out).mono ?_); rintro e w' ⟨rfl, ⟨nd, rfl⟩⟩; (try first | exact ⟨rfl, _, World.drewN_drewN _ _ _⟩ | exact ⟨rfl, _, Eq.trans (World.drewN_drewN _ _ _) (congrArg (World.drewN _) (Nat.add_assoc _ _ _))⟩)) | (go_at_call 26; (with_reducible refine (lockfastref08_digits.calls a0_2 t202 _ A13.out).mono ?_); rintro e w' ⟨rfl, ⟨nd, rfl⟩⟩; (try first | exact ⟨rfl, _, World.drewN_drewN _ _ _⟩ | exact ⟨rfl, _, Eq.trans (World.drewN_drewN _ _ _) (congrArg (World.drewN _) (Nat.add_assoc _ _ _))⟩))); try go_wp2_with (first | (go_at_call 26; (with_reducible refine (lockfastref08_digits.calls (IntKind.u64.wrap (a0_0)) t200 _ A8.out).mono ?_); rintro e w' ⟨rfl, ⟨nd, rfl⟩⟩; (try first | exact ⟨rfl, _, World.drewN_drewN _ _ _⟩ | exact ⟨rfl, _, Eq.trans (World.drewN_drewN _ _ _) (congrArg (World.drewN _) (Nat.add_assoc _ _ _))⟩)) | (go_at_call 26; (with_reducible refine (lockfastref08_digits.calls (IntKind.u64.wrap (a0_1)) t201 _ A10.out).mono ?_); rintro e w' ⟨rfl, ⟨nd, rfl⟩⟩; (try first | exact ⟨rfl, _, World.drewN_drewN _ _ _⟩ | exact ⟨rfl, _, Eq.trans (World.drewN_drewN _ _ _) (congrArg (World.drewN _) (Nat.add_assoc _ _ _))⟩)) | (go_at_call 26; (with_reducible refine (lockfastref08_digits.calls a0_2 t202 _ A13.out).mono ?_); rintro e w' ⟨rfl, ⟨nd, rfl⟩⟩; (try first | exact ⟨rfl, _, World.drewN_drewN _ _ _⟩ | exact ⟨rfl, _, Eq.trans (World.drewN_drewN _ _ _) (congrArg (World.drewN _) (Nat.add_assoc _ _ _))⟩))))
                go_ret
                exact ⟨by first | rfl | (simp [errW_none, errW_some] <;> rfl) | (simp [*, errW_none, errW_some] <;> rfl), by repeat (first | (with_reducible first | exact HB.out | apply below_alloc | apply pw_below_drewN | apply below_drew1 | refine below_set ?_ GE199.out) | exact HB.out)⟩
              · rw [if_neg c14] at H
                exact absurd H (by simp)
            · rw [if_neg c12] at H
              exact absurd H (by simp)
          · rw [if_neg c11] at H
            exact absurd H (by simp)
        · rw [if_neg c9] at H
          exact absurd H (by simp)

/-! ### oid_Name: function 15 -/
def oid_Name.f (a0 : Int) (a1_0 : Int) (a1_1 : Int) (a1_2 : Int) : Option (Int × Int × Int) := some (a0, a1_0, a1_2)
set_option maxHeartbeats 8000000 in
set_option maxRecDepth 100000 in
theorem oid_Name.calls (a0 : Int) (a1_0 : Int) (a1_1 : Int) (a1_2 : Int) (r1 : Int) (r2 : Int) (r3 : Int) (w : World) (h : oid_Name.f a0 a1_0 a1_1 a1_2 = some (r1, r2, r3)) :
    Calls Tryd.prog 15 #[.int .i64 a0, .agg #[.int .i64 a1_0, .int .i64 a1_1, .int .u64 a1_2]] w fun e w' => e = .returned (.agg #[.int .i64 r1, .int .i64 r2, .int .u64 r3]) ∧ Below w.heap.size w w' := by
  have hu26 := Tryd.underlying26
  have hu24 := Tryd.underlying24
  have HB := Aside0.mk (Below.refl w.heap.size w)
  have H : (some (a0, a1_0, a1_2)) = some (r1, r2, r3) := h
  clear h
  simp only [Option.some.injEq, Prod.mk.injEq] at H
  obtain ⟨rfl, rfl, rfl⟩ := H
  go_enter Tryd.func15, Tryd.ntmps15
  go_wp2_with (first | ((with_reducible refine gate_dst (N := 3) rfl ?_); refine box_event ?hg (N := 3) ?hd (cs := #[.int .i64 a1_0, .int .i64 a1_1, .int .u64 a1_2]) (t := 26) ?hr ?_; (case hd => rfl); (case hg => rfl); (case hr => first | (go_simp; done) | (go_simp; rfl)); intro gb203 hg w3 hbox hb; have n0_ := Aside0.mk (below_step (by repeat (first | (with_reducible first | exact HB.out | apply below_alloc | apply pw_below_drewN | apply below_drew1) | exact HB.out)) hb); have n1_ := Aside0.mk (hbox); have n2_ := Aside0.mk ((by rw [hg]; exact (below_size (by repeat (first | (with_reducible first | exact HB.out | apply below_alloc | apply pw_below_drewN | apply below_drew1) | exact HB.out))) : w.heap.size ≤ gb203)); have n3_ := Aside0.mk ((by rw [hg]; exact (below_size (by repeat (first | (with_reducible first | exact HB.out | apply below_alloc | apply pw_below_drewN | apply below_drew1) | exact HB.out))) : w.heap.size ≤ gb203)); clear HB; have HB := n0_; have BK203 := n1_; have GW203 := n2_; have GE203 := n3_; clear n0_ n1_ n2_ n3_; clear hb hbox hg) | ((with_reducible refine gate_dst (N := 4) rfl ?_); refine box_event ?hg (N := 4) ?hd (cs := #[.int .i64 0, .int .i64 0, .int .u64 0]) (t := 24) ?hr ?_; (case hd => rfl); (case hg => rfl); (case hr => first | (go_simp; done) | (go_simp; rfl)); intro gb204 hg w4 hbox hb; have n0_ := Aside0.mk (blk_below (g := gb203) (o := .cells #[.int .i64 a1_0, .int .i64 a1_1, .int .u64 a1_2] 26 (0, 0)) (by (with_reducible repeat (first | refine blk_drewN ?_ _ | refine blk_drew ?_ | refine blk_alloc ?_ _)); exact BK203.out) hb); have n1_ := Aside0.mk (below_step (by repeat (first | (with_reducible first | exact HB.out | apply below_alloc | apply pw_below_drewN | apply below_drew1 | refine below_set ?_ GE203.out) | exact HB.out)) hb); have n2_ := Aside0.mk (hbox); have n3_ := Aside0.mk ((by rw [hg]; exact (below_size (by repeat (first | (with_reducible first | exact HB.out | apply below_alloc | apply pw_below_drewN | apply below_drew1 | refine below_set ?_ GE203.out) | exact HB.out))) : w.heap.size ≤ gb204)); have n4_ := Aside0.mk ((by rw [hg]; exact (below_size (by repeat (first | (with_reducible first | exact HB.out | apply below_alloc | apply pw_below_drewN | apply below_drew1 | refine below_set ?_ GE203.out) | exact HB.out))) : w.heap.size ≤ gb204)); have n5_ := Aside0.mk ((by rw [hg]; exact Nat.ne_of_lt (blk_lt (g := gb203) (o := .cells #[.int .i64 a1_0, .int .i64 a1_1, .int .u64 a1_2] 26 (0, 0)) (by (with_reducible repeat (first | refine blk_drewN ?_ _ | refine blk_drew ?_ | refine blk_alloc ?_ _)); exact BK203.out)) : gb203 ≠ gb204)); have n6_ := Aside0.mk ((by rw [hg]; exact Nat.ne_of_gt (blk_lt (g := gb203) (o := .cells #[.int .i64 a1_0, .int .i64 a1_1, .int .u64 a1_2] 26 (0, 0)) (by (with_reducible repeat (first | refine blk_drewN ?_ _ | refine blk_drew ?_ | refine blk_alloc ?_ _)); exact BK203.out)) : gb204 ≠ gb203)); clear BK203; clear HB; have BK203 := n0_; have HB := n1_; have BK204 := n2_; have GW204 := n3_; have GE204 := n4_; have NB203_204 := n5_; have NB204_203 := n6_; clear n0_ n1_ n2_ n3_ n4_ n5_ n6_; clear hb hbox hg; have hnb5 := NB203_204.out; have hnc5 := NB204_203.out; have hcz6_0 : w4.cell? ⟨gb203, 0, none⟩ = some (.int .i64 a1_0) := (blk_cell BK203.out 0).trans rfl; have hcz6_1 : w4.cell? ⟨gb203, 1, none⟩ = some (.int .i64 a1_1) := (blk_cell BK203.out 1).trans rfl; have hcz6_2 : w4.cell? ⟨gb203, 2, none⟩ = some (.int .u64 a1_2) := (blk_cell BK203.out 2).trans rfl; have hfz6_0 := blk_frozen BK203.out 0; have hfz6_1 := blk_frozen BK203.out 1; have hfz6_2 := blk_frozen BK203.out 2; have hcz7_0 : w4.cell? ⟨gb204, 0, none⟩ = some (.int .i64 0) := (blk_cell BK204.out 0).trans rfl; have hcz7_1 : w4.cell? ⟨gb204, 1, none⟩ = some (.int .i64 0) := (blk_cell BK204.out 1).trans rfl; have hcz7_2 : w4.cell? ⟨gb204, 2, none⟩ = some (.int .u64 0) := (blk_cell BK204.out 2).trans rfl; have hfz7_0 := blk_frozen BK204.out 0; have hfz7_1 := blk_frozen BK204.out 1; have hfz7_2 := blk_frozen BK204.out 2))
  refine bodyPost_ret (results_cell_row rfl _ _ gb204 24 #[.int .i64 a0, .int .i64 a1_0, .int .u64 a1_2] (0, 0) _ rfl (by (with_reducible repeat (first | refine blk_drewN ?_ _ | refine blk_drew ?_ | refine blk_alloc ?_ _)); refine blk_put (cs := #[.int .i64 a0, .int .i64 a1_0, .int .u64 0]) ?_ 2 _ rfl; (with_reducible repeat (first | refine blk_drewN ?_ _ | refine blk_drew ?_ | refine blk_alloc ?_ _)); refine blk_put (cs := #[.int .i64 a0, .int .i64 0, .int .u64 0]) ?_ 1 _ rfl; (with_reducible repeat (first | refine blk_drewN ?_ _ | refine blk_drew ?_ | refine blk_alloc ?_ _)); refine blk_put (cs := #[.int .i64 0, .int .i64 0, .int .u64 0]) ?_ 0 _ rfl; (with_reducible repeat (first | refine blk_drewN ?_ _ | refine blk_drew ?_ | refine blk_alloc ?_ _)); exact BK204.out) Tryd.underlying24 rfl (by kernel_rfl)) rfl ?_
  exact ⟨by first | rfl | (simp [errW_none, errW_some] <;> rfl) | (simp [*, errW_none, errW_some] <;> rfl), by repeat (first | (with_reducible first | exact HB.out | apply below_alloc | apply pw_below_drewN | apply below_drew1 | refine below_set ?_ GE203.out | refine below_set ?_ GE204.out) | exact HB.out)⟩

end Go.Proofs.YtlbgepadkaehiaaDoor.Q
