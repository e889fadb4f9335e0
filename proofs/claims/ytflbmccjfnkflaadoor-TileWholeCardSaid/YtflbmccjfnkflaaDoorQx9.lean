-- Written by lfprint.py of this session's own, by way of the kit's print.py; with hand-made contracts.
import Derived.Outline
import Derived.Deep.RegionHeld3
import Derived.LoopN
import Derived.Laws.EntriesVeiled
import Derived.Test.YtflbmccjfnkflaaDoorQx0
import Derived.Test.YtflbmccjfnkflaaDoorQx4
import Derived.Test.YtflbmccjfnkflaaDoorQx8
namespace Go.Proofs.YtflbmccjfnkflaaDoor.Q
open Go.RowKit Go.Proofs.YtflbmccjfnkflaaDoorW.PrintWords Go.Proofs.YtflbmccjfnkflaaDoorW.PrintLast Go.Proofs.YtflbmccjfnkflaaDoorW.PrintMore
attribute [local go_sem] max2_int min2_int max_two min_two max_three min_three max_four min_four   -- for this text's walks alone
set_option linter.unusedVariables false
set_option linter.unusedSimpArgs false

/-! ### chunk_word: function 69 -/
def chunk_word.f (a0_0 a0_1 a0_2 a0_3 a0_4 : Int) : Option Int :=
  (chunk_place_put.f 0 3 0 (IntKind.u64.wrap a0_0)).bind fun w1 => (chunk_place_put.f 3 2 w1 (IntKind.u64.wrap a0_1)).bind fun w2 => (chunk_place_put.f 5 6 w2 (IntKind.u64.wrap a0_2)).bind fun w3 =>
    (chunk_place_put.f 11 13 w3 (IntKind.u64.wrap a0_3)).bind fun w4 => chunk_place_put.f 24 8 w4 a0_4
theorem wd_keep {w w1 w2 : World} {c0 c1 c2 c3 c4 : Addr} {v0 v1 v2 v3 v4 : Value} (hb : Below w1.heap.size w1 w2)
    (h : w1.cell? c0 = some v0 ∧ w1.cell? c1 = some v1 ∧ w1.cell? c2 = some v2 ∧ w1.cell? c3 = some v3 ∧ w1.cell? c4 = some v4 ∧ Below w.heap.size w w1) :
    w2.cell? c0 = some v0 ∧ w2.cell? c1 = some v1 ∧ w2.cell? c2 = some v2 ∧ w2.cell? c3 = some v3 ∧ w2.cell? c4 = some v4 ∧ Below w.heap.size w w2 :=
  ⟨pw_cell_below hb h.1, pw_cell_below hb h.2.1, pw_cell_below hb h.2.2.1, pw_cell_below hb h.2.2.2.1, pw_cell_below hb h.2.2.2.2.1, below_step h.2.2.2.2.2 hb⟩
set_option maxHeartbeats 4000000 in
set_option maxRecDepth 100000 in
theorem chunk_word.calls (a0_0 a0_1 a0_2 a0_3 a0_4 : Int) (r : Int) (w : World) (h : chunk_word.f a0_0 a0_1 a0_2 a0_3 a0_4 = some r) :
    Calls Tryd.prog 69 #[.agg #[.int .i64 a0_0, .int .i64 a0_1, .int .i64 a0_2, .int .i64 a0_3, .int .u64 a0_4]] w fun e w' => e = .returned (.int .u64 r) ∧ Below w.heap.size w w' := by
  unfold chunk_word.f at h
  obtain ⟨w1, h1, h⟩ := Option.bind_eq_some_iff.mp h
  obtain ⟨w2, h2, h⟩ := Option.bind_eq_some_iff.mp h
  obtain ⟨w3, h3, h⟩ := Option.bind_eq_some_iff.mp h
  obtain ⟨w4, h4, h5⟩ := Option.bind_eq_some_iff.mp h
  have H1 := Aside0.mk h1
  have H2 := Aside0.mk h2
  have H3 := Aside0.mk h3
  have H4 := Aside0.mk h4
  have H5 := Aside0.mk h5
  clear h h1 h2 h3 h4 h5
  have hu := Tryd.underlying29
  go_enter Tryd.func69, Tryd.ntmps69
  go_wp2
  have b0 : Below w.heap.size w (w.alloc (.cells #[.int .i64 a0_0, .int .i64 a0_1, .int .i64 a0_2, .int .i64 a0_3, .int .u64 a0_4] 29)) := (Below.refl _ w).alloc (Nat.le_refl _) _
  have c0 : (w.alloc (.cells #[.int .i64 a0_0, .int .i64 a0_1, .int .i64 a0_2, .int .i64 a0_3, .int .u64 a0_4] 29)).cell? ⟨w.heap.size, 0, none⟩ = some (.int .i64 a0_0) := by simp
  have c1 : (w.alloc (.cells #[.int .i64 a0_0, .int .i64 a0_1, .int .i64 a0_2, .int .i64 a0_3, .int .u64 a0_4] 29)).cell? ⟨w.heap.size, 1, none⟩ = some (.int .i64 a0_1) := by simp
  have c2 : (w.alloc (.cells #[.int .i64 a0_0, .int .i64 a0_1, .int .i64 a0_2, .int .i64 a0_3, .int .u64 a0_4] 29)).cell? ⟨w.heap.size, 2, none⟩ = some (.int .i64 a0_2) := by simp
  have c3 : (w.alloc (.cells #[.int .i64 a0_0, .int .i64 a0_1, .int .i64 a0_2, .int .i64 a0_3, .int .u64 a0_4] 29)).cell? ⟨w.heap.size, 3, none⟩ = some (.int .i64 a0_3) := by simp
  have c4 : (w.alloc (.cells #[.int .i64 a0_0, .int .i64 a0_1, .int .i64 a0_2, .int .i64 a0_3, .int .u64 a0_4] 29)).cell? ⟨w.heap.size, 4, none⟩ = some (.int .u64 a0_4) := by simp
  generalize w.alloc (.cells #[.int .i64 a0_0, .int .i64 a0_1, .int .i64 a0_2, .int .i64 a0_3, .int .u64 a0_4] 29) = wo at *
  have hc := And.intro c0 (And.intro c1 (And.intro c2 (And.intro c3 (And.intro c4 b0))))
  clear c0 c1 c2 c3 c4 b0
  refine wp_region_noPanic ?_
  refine wp_region_held_drew (S := (fun w' => w'.cell? ⟨w.heap.size, 0, none⟩ = some (.int .i64 a0_0) ∧ w'.cell? ⟨w.heap.size, 1, none⟩ = some (.int .i64 a0_1) ∧ w'.cell? ⟨w.heap.size, 2, none⟩ = some (.int .i64 a0_2) ∧ w'.cell? ⟨w.heap.size, 3, none⟩ = some (.int .i64 a0_3) ∧ w'.cell? ⟨w.heap.size, 4, none⟩ = some (.int .u64 a0_4) ∧ Below w.heap.size w w')) (by kernel_rfl) (wd_keep (below_drew1 (Below.refl _ _)) (by assumption)) (fun hHeld => ?_)
  refine wpAnyH_take (i := 2) (v := ?_) rfl (by kernel_rfl) (by kernel_rfl) (by kernel_rfl) (fun _ _ _ h => h) (Or.inl ⟨rfl, ?_⟩) (by assumption) ?_
  rotate_left
  · intro w hSw; (try dsimp only at hSw); first | (go_simp; done) | (go_simp; with_reducible rfl)
  simp only [Act.put, List.setIfInBounds_toArray, List.set_cons_zero, List.set_cons_succ]
  refine wpAnyH_take (i := 3) (v := ?_) rfl (by kernel_rfl) (by kernel_rfl) (by kernel_rfl) (fun _ _ _ h => h) (Or.inl ⟨rfl, ?_⟩) (by assumption) ?_
  rotate_left
  · intro w hSw; (try dsimp only at hSw); first | (go_simp; done) | (go_simp; with_reducible rfl)
  simp only [Act.put, List.setIfInBounds_toArray, List.set_cons_zero, List.set_cons_succ]
  refine wpAnyH_take (i := 4) (v := ?_) rfl (by kernel_rfl) (by kernel_rfl) (by kernel_rfl) (fun _ _ _ h => h) (Or.inl ⟨rfl, ?_⟩) (by assumption) ?_
  rotate_left
  · intro w hSw; (try dsimp only at hSw); first | (go_simp; done) | (go_simp; with_reducible rfl)
  simp only [Act.put, List.setIfInBounds_toArray, List.set_cons_zero, List.set_cons_succ]
  refine wpAnyH_take (i := 8) (v := ?_) rfl (by kernel_rfl) (by kernel_rfl) (by kernel_rfl) (fun _ _ _ h => h) (Or.inl ⟨rfl, ?_⟩) (by assumption) ?_
  rotate_left
  · intro w hSw; (try dsimp only at hSw); first | (go_simp; done) | (go_simp; with_reducible rfl)
  simp only [Act.put, List.setIfInBounds_toArray, List.set_cons_zero, List.set_cons_succ]
  refine wpAnyH_take (i := 9) (v := ?_) rfl (by kernel_rfl) (by kernel_rfl) (by kernel_rfl) (fun _ _ _ h => h) (Or.inl ⟨rfl, ?_⟩) (by assumption) ?_
  rotate_left
  · intro w hSw; (try dsimp only at hSw); first | (go_simp; done) | (go_simp; with_reducible rfl)
  simp only [Act.put, List.setIfInBounds_toArray, List.set_cons_zero, List.set_cons_succ]
  refine wpAnyH_take (i := 10) (v := ?_) rfl (by kernel_rfl) (by kernel_rfl) (by kernel_rfl) (fun _ _ _ h => h) (Or.inl ⟨rfl, ?_⟩) (by assumption) ?_
  rotate_left
  · intro w hSw; (try dsimp only at hSw); first | (go_simp; done) | (go_simp; with_reducible rfl)
  simp only [Act.put, List.setIfInBounds_toArray, List.set_cons_zero, List.set_cons_succ]
  refine wpAnyH_take (i := 14) (v := ?_) rfl (by kernel_rfl) (by kernel_rfl) (by kernel_rfl) (fun _ _ _ h => h) (Or.inl ⟨rfl, ?_⟩) (by assumption) ?_
  rotate_left
  · intro w hSw; (try dsimp only at hSw); first | (go_simp; done) | (go_simp; with_reducible rfl)
  simp only [Act.put, List.setIfInBounds_toArray, List.set_cons_zero, List.set_cons_succ]
  refine wpAnyH_take (i := 15) (v := ?_) rfl (by kernel_rfl) (by kernel_rfl) (by kernel_rfl) (fun _ _ _ h => h) (Or.inl ⟨rfl, ?_⟩) (by assumption) ?_
  rotate_left
  · intro w hSw; (try dsimp only at hSw); first | (go_simp; done) | (go_simp; with_reducible rfl)
  simp only [Act.put, List.setIfInBounds_toArray, List.set_cons_zero, List.set_cons_succ]
  refine wpAnyH_take (i := 16) (v := ?_) rfl (by kernel_rfl) (by kernel_rfl) (by kernel_rfl) (fun _ _ _ h => h) (Or.inl ⟨rfl, ?_⟩) (by assumption) ?_
  rotate_left
  · intro w hSw; (try dsimp only at hSw); first | (go_simp; done) | (go_simp; with_reducible rfl)
  simp only [Act.put, List.setIfInBounds_toArray, List.set_cons_zero, List.set_cons_succ]
  refine wpAnyH_take (i := 20) (v := ?_) rfl (by kernel_rfl) (by kernel_rfl) (by kernel_rfl) (fun _ _ _ h => h) (Or.inl ⟨rfl, ?_⟩) (by assumption) ?_
  rotate_left
  · intro w hSw; (try dsimp only at hSw); first | (go_simp; done) | (go_simp; with_reducible rfl)
  simp only [Act.put, List.setIfInBounds_toArray, List.set_cons_zero, List.set_cons_succ]
  refine wpAnyH_take (i := 21) (v := ?_) rfl (by kernel_rfl) (by kernel_rfl) (by kernel_rfl) (fun _ _ _ h => h) (Or.inl ⟨rfl, ?_⟩) (by assumption) ?_
  rotate_left
  · intro w hSw; (try dsimp only at hSw); first | (go_simp; done) | (go_simp; with_reducible rfl)
  simp only [Act.put, List.setIfInBounds_toArray, List.set_cons_zero, List.set_cons_succ]
  refine wpAnyH_take (i := 22) (v := ?_) rfl (by kernel_rfl) (by kernel_rfl) (by kernel_rfl) (fun _ _ _ h => h) (Or.inl ⟨rfl, ?_⟩) (by assumption) ?_
  rotate_left
  · intro w hSw; (try dsimp only at hSw); first | (go_simp; done) | (go_simp; with_reducible rfl)
  simp only [Act.put, List.setIfInBounds_toArray, List.set_cons_zero, List.set_cons_succ]
  refine wpAnyH_take (i := 26) (v := ?_) rfl (by kernel_rfl) (by kernel_rfl) (by kernel_rfl) (fun _ _ _ h => h) (Or.inl ⟨rfl, ?_⟩) (by assumption) ?_
  rotate_left
  · intro w hSw; (try dsimp only at hSw); first | (go_simp; done) | (go_simp; with_reducible rfl)
  simp only [Act.put, List.setIfInBounds_toArray, List.set_cons_zero, List.set_cons_succ]
  refine wpAnyH_take (i := 27) (v := ?_) rfl (by kernel_rfl) (by kernel_rfl) (by kernel_rfl) (fun _ _ _ h => h) (Or.inl ⟨rfl, ?_⟩) (by assumption) ?_
  rotate_left
  · intro w hSw; (try dsimp only at hSw); first | (go_simp; done) | (go_simp; with_reducible rfl)
  simp only [Act.put, List.setIfInBounds_toArray, List.set_cons_zero, List.set_cons_succ]
  refine wpAnyH_take (i := 31) (v := ?_) rfl (by kernel_rfl) (by kernel_rfl) (by kernel_rfl) (fun _ _ _ h => h) (Or.inl ⟨rfl, ?_⟩) (by assumption) ?_
  rotate_left
  · intro w hSw; (try dsimp only at hSw); first | (go_simp; done) | (go_simp; with_reducible rfl)
  simp only [Act.put, List.setIfInBounds_toArray, List.set_cons_zero, List.set_cons_succ]
  refine wpAnyH_ready (rs := [0]) (by kernel_rfl) (by simp) ?_
  refine AllReadyH.cons rfl (fun K hK => ?_) AllReadyH.nil
  go_simp
  go_at_call 62
  (with_reducible refine (chunk_kinds.calls 0 3 _ rfl).mono ?_)
  rintro e w' ⟨rfl, hbn⟩
  try go_wp2_with fail
  refine hK.out _ _ (wd_keep hbn (by assumption)) (fun hHeld => ?_)
  clear hK K
  try simp only [Act.put, List.setIfInBounds_toArray, List.set_cons_zero, List.set_cons_succ]
  refine wpAnyH_take (i := 1) (v := ?_) rfl (by kernel_rfl) (by kernel_rfl) (by kernel_rfl) (fun _ _ _ h => h) (Or.inl ⟨rfl, ?_⟩) (by assumption) ?_
  rotate_left
  · intro w hSw; (try dsimp only at hSw); first | (go_simp; done) | (go_simp; with_reducible rfl)
  simp only [Act.put, List.setIfInBounds_toArray, List.set_cons_zero, List.set_cons_succ]
  refine wpAnyH_take (i := 5) (v := ?_) rfl (by kernel_rfl) (by kernel_rfl) (by kernel_rfl) (fun _ _ _ h => h) (Or.inl ⟨rfl, ?_⟩) (by assumption) ?_
  rotate_left
  · intro w hSw; (try dsimp only at hSw); first | (go_simp; done) | (go_simp; with_reducible rfl)
  simp only [Act.put, List.setIfInBounds_toArray, List.set_cons_zero, List.set_cons_succ]
  refine wpAnyH_ready (rs := [6]) (by kernel_rfl) (by simp) ?_
  refine AllReadyH.cons rfl (fun K hK => ?_) AllReadyH.nil
  go_simp
  go_at_call 64
  (with_reducible refine (chunk_classes.calls 3 2 _ rfl).mono ?_)
  rintro e w' ⟨rfl, hbn⟩
  try go_wp2_with fail
  refine hK.out _ _ (wd_keep hbn (by assumption)) (fun hHeld => ?_)
  clear hK K
  try simp only [Act.put, List.setIfInBounds_toArray, List.set_cons_zero, List.set_cons_succ]
  refine wpAnyH_take (i := 7) (v := ?_) rfl (by kernel_rfl) (by kernel_rfl) (by kernel_rfl) (fun _ _ _ h => h) (Or.inl ⟨rfl, ?_⟩) (by assumption) ?_
  rotate_left
  · intro w hSw; (try dsimp only at hSw); first | (go_simp; done) | (go_simp; with_reducible rfl)
  simp only [Act.put, List.setIfInBounds_toArray, List.set_cons_zero, List.set_cons_succ]
  refine wpAnyH_take (i := 11) (v := ?_) rfl (by kernel_rfl) (by kernel_rfl) (by kernel_rfl) (fun _ _ _ h => h) (Or.inl ⟨rfl, ?_⟩) (by assumption) ?_
  rotate_left
  · intro w hSw; (try dsimp only at hSw); first | (go_simp; done) | (go_simp; with_reducible rfl)
  simp only [Act.put, List.setIfInBounds_toArray, List.set_cons_zero, List.set_cons_succ]
  refine wpAnyH_ready (rs := [12]) (by kernel_rfl) (by simp) ?_
  refine AllReadyH.cons rfl (fun K hK => ?_) AllReadyH.nil
  go_simp
  go_at_call 65
  (with_reducible refine (chunk_lanes.calls 5 6 _ rfl).mono ?_)
  rintro e w' ⟨rfl, hbn⟩
  try go_wp2_with fail
  refine hK.out _ _ (wd_keep hbn (by assumption)) (fun hHeld => ?_)
  clear hK K
  try simp only [Act.put, List.setIfInBounds_toArray, List.set_cons_zero, List.set_cons_succ]
  refine wpAnyH_take (i := 13) (v := ?_) rfl (by kernel_rfl) (by kernel_rfl) (by kernel_rfl) (fun _ _ _ h => h) (Or.inl ⟨rfl, ?_⟩) (by assumption) ?_
  rotate_left
  · intro w hSw; (try dsimp only at hSw); first | (go_simp; done) | (go_simp; with_reducible rfl)
  simp only [Act.put, List.setIfInBounds_toArray, List.set_cons_zero, List.set_cons_succ]
  refine wpAnyH_take (i := 17) (v := ?_) rfl (by kernel_rfl) (by kernel_rfl) (by kernel_rfl) (fun _ _ _ h => h) (Or.inl ⟨rfl, ?_⟩) (by assumption) ?_
  rotate_left
  · intro w hSw; (try dsimp only at hSw); first | (go_simp; done) | (go_simp; with_reducible rfl)
  simp only [Act.put, List.setIfInBounds_toArray, List.set_cons_zero, List.set_cons_succ]
  refine wpAnyH_ready (rs := [18]) (by kernel_rfl) (by simp) ?_
  refine AllReadyH.cons rfl (fun K hK => ?_) AllReadyH.nil
  go_simp
  go_at_call 66
  (with_reducible refine (chunk_manys.calls 11 13 _ rfl).mono ?_)
  rintro e w' ⟨rfl, hbn⟩
  try go_wp2_with fail
  refine hK.out _ _ (wd_keep hbn (by assumption)) (fun hHeld => ?_)
  clear hK K
  try simp only [Act.put, List.setIfInBounds_toArray, List.set_cons_zero, List.set_cons_succ]
  refine wpAnyH_take (i := 19) (v := ?_) rfl (by kernel_rfl) (by kernel_rfl) (by kernel_rfl) (fun _ _ _ h => h) (Or.inl ⟨rfl, ?_⟩) (by assumption) ?_
  rotate_left
  · intro w hSw; (try dsimp only at hSw); first | (go_simp; done) | (go_simp; with_reducible rfl)
  simp only [Act.put, List.setIfInBounds_toArray, List.set_cons_zero, List.set_cons_succ]
  refine wpAnyH_take (i := 23) (v := ?_) rfl (by kernel_rfl) (by kernel_rfl) (by kernel_rfl) (fun _ _ _ h => h) (Or.inl ⟨rfl, ?_⟩) (by assumption) ?_
  rotate_left
  · intro w hSw; (try dsimp only at hSw); first | (go_simp; done) | (go_simp; with_reducible rfl)
  simp only [Act.put, List.setIfInBounds_toArray, List.set_cons_zero, List.set_cons_succ]
  refine wpAnyH_ready (rs := [24]) (by kernel_rfl) (by simp) ?_
  refine AllReadyH.cons rfl (fun K hK => ?_) AllReadyH.nil
  go_simp
  go_at_call 67
  (with_reducible refine (chunk_bits.calls 24 8 _ rfl).mono ?_)
  rintro e w' ⟨rfl, hbn⟩
  try go_wp2_with fail
  refine hK.out _ _ (wd_keep hbn (by assumption)) (fun hHeld => ?_)
  clear hK K
  try simp only [Act.put, List.setIfInBounds_toArray, List.set_cons_zero, List.set_cons_succ]
  refine wpAnyH_take (i := 25) (v := ?_) rfl (by kernel_rfl) (by kernel_rfl) (by kernel_rfl) (fun _ _ _ h => h) (Or.inl ⟨rfl, ?_⟩) (by assumption) ?_
  rotate_left
  · intro w hSw; (try dsimp only at hSw); first | (go_simp; done) | (go_simp; with_reducible rfl)
  simp only [Act.put, List.setIfInBounds_toArray, List.set_cons_zero, List.set_cons_succ]
  refine wpAnyH_take (i := 28) (v := ?_) rfl (by kernel_rfl) (by kernel_rfl) (by kernel_rfl) (fun _ _ _ h => h) (Or.inl ⟨rfl, ?_⟩) (by assumption) ?_
  rotate_left
  · intro w hSw; (try dsimp only at hSw); first | (go_simp; done) | (go_simp; with_reducible rfl)
  simp only [Act.put, List.setIfInBounds_toArray, List.set_cons_zero, List.set_cons_succ]
  refine wpAnyH_ready (rs := [29]) (by kernel_rfl) (by simp) ?_
  refine AllReadyH.cons rfl (fun K hK => ?_) AllReadyH.nil
  go_simp
  refine hK.out _ _ (wd_keep ((Below.refl _ _).alloc (Nat.le_refl _) _) (by assumption)) (fun hHeld => ?_)
  clear hK K
  try simp only [Act.put, List.setIfInBounds_toArray, List.set_cons_zero, List.set_cons_succ]
  refine wpAnyH_take (i := 30) (v := ?_) rfl (by kernel_rfl) (by kernel_rfl) (by kernel_rfl) (fun _ _ _ h => h) (Or.inl ⟨rfl, ?_⟩) (by assumption) ?_
  rotate_left
  · intro w hSw; (try dsimp only at hSw); first | (go_simp; done) | (go_simp; with_reducible rfl)
  simp only [Act.put, List.setIfInBounds_toArray, List.set_cons_zero, List.set_cons_succ]
  try simp only [List.getElem_toArray, List.getElem_cons_succ, List.getElem_cons_zero, Act.put, List.setIfInBounds_toArray, List.set_cons_zero, List.set_cons_succ]
  refine wpAnyH_done (by kernel_rfl) ?_ _
  refine NoPanic.normal ?_
  go_wp2
  try simp only [Act.put, List.setIfInBounds_toArray, List.set_cons_zero, List.set_cons_succ]
  have hB : Below w.heap.size w (w'.alloc (.cells #[.func (.func 98) #[.agg #[.int .i64 0, .int .i64 3]] #[], .int .u64 (IntKind.u64.wrap a0_0), .func (.func 98) #[.agg #[.int .i64 3, .int .i64 2]] #[], .int .u64 (IntKind.u64.wrap a0_1), .func (.func 98) #[.agg #[.int .i64 5, .int .i64 6]] #[], .int .u64 (IntKind.u64.wrap a0_2), .func (.func 98) #[.agg #[.int .i64 11, .int .i64 13]] #[], .int .u64 (IntKind.u64.wrap a0_3), .func (.func 98) #[.agg #[.int .i64 24, .int .i64 8]] #[], .int .u64 a0_4] 117)) := below_step hHeld.2.2.2.2.2 (Below.refl _ _)
  have d0 : (w'.alloc (.cells #[.func (.func 98) #[.agg #[.int .i64 0, .int .i64 3]] #[], .int .u64 (IntKind.u64.wrap a0_0), .func (.func 98) #[.agg #[.int .i64 3, .int .i64 2]] #[], .int .u64 (IntKind.u64.wrap a0_1), .func (.func 98) #[.agg #[.int .i64 5, .int .i64 6]] #[], .int .u64 (IntKind.u64.wrap a0_2), .func (.func 98) #[.agg #[.int .i64 11, .int .i64 13]] #[], .int .u64 (IntKind.u64.wrap a0_3), .func (.func 98) #[.agg #[.int .i64 24, .int .i64 8]] #[], .int .u64 a0_4] 117)).cell? ⟨w'.heap.size, 0, none⟩ = some (.func (.func 98) #[.agg #[.int .i64 0, .int .i64 3]] #[]) := by simp
  have d1 : (w'.alloc (.cells #[.func (.func 98) #[.agg #[.int .i64 0, .int .i64 3]] #[], .int .u64 (IntKind.u64.wrap a0_0), .func (.func 98) #[.agg #[.int .i64 3, .int .i64 2]] #[], .int .u64 (IntKind.u64.wrap a0_1), .func (.func 98) #[.agg #[.int .i64 5, .int .i64 6]] #[], .int .u64 (IntKind.u64.wrap a0_2), .func (.func 98) #[.agg #[.int .i64 11, .int .i64 13]] #[], .int .u64 (IntKind.u64.wrap a0_3), .func (.func 98) #[.agg #[.int .i64 24, .int .i64 8]] #[], .int .u64 a0_4] 117)).cell? ⟨w'.heap.size, 1, none⟩ = some (.int .u64 (IntKind.u64.wrap a0_0)) := by simp
  have d2 : (w'.alloc (.cells #[.func (.func 98) #[.agg #[.int .i64 0, .int .i64 3]] #[], .int .u64 (IntKind.u64.wrap a0_0), .func (.func 98) #[.agg #[.int .i64 3, .int .i64 2]] #[], .int .u64 (IntKind.u64.wrap a0_1), .func (.func 98) #[.agg #[.int .i64 5, .int .i64 6]] #[], .int .u64 (IntKind.u64.wrap a0_2), .func (.func 98) #[.agg #[.int .i64 11, .int .i64 13]] #[], .int .u64 (IntKind.u64.wrap a0_3), .func (.func 98) #[.agg #[.int .i64 24, .int .i64 8]] #[], .int .u64 a0_4] 117)).cell? ⟨w'.heap.size, 2, none⟩ = some (.func (.func 98) #[.agg #[.int .i64 3, .int .i64 2]] #[]) := by simp
  have d3 : (w'.alloc (.cells #[.func (.func 98) #[.agg #[.int .i64 0, .int .i64 3]] #[], .int .u64 (IntKind.u64.wrap a0_0), .func (.func 98) #[.agg #[.int .i64 3, .int .i64 2]] #[], .int .u64 (IntKind.u64.wrap a0_1), .func (.func 98) #[.agg #[.int .i64 5, .int .i64 6]] #[], .int .u64 (IntKind.u64.wrap a0_2), .func (.func 98) #[.agg #[.int .i64 11, .int .i64 13]] #[], .int .u64 (IntKind.u64.wrap a0_3), .func (.func 98) #[.agg #[.int .i64 24, .int .i64 8]] #[], .int .u64 a0_4] 117)).cell? ⟨w'.heap.size, 3, none⟩ = some (.int .u64 (IntKind.u64.wrap a0_1)) := by simp
  have d4 : (w'.alloc (.cells #[.func (.func 98) #[.agg #[.int .i64 0, .int .i64 3]] #[], .int .u64 (IntKind.u64.wrap a0_0), .func (.func 98) #[.agg #[.int .i64 3, .int .i64 2]] #[], .int .u64 (IntKind.u64.wrap a0_1), .func (.func 98) #[.agg #[.int .i64 5, .int .i64 6]] #[], .int .u64 (IntKind.u64.wrap a0_2), .func (.func 98) #[.agg #[.int .i64 11, .int .i64 13]] #[], .int .u64 (IntKind.u64.wrap a0_3), .func (.func 98) #[.agg #[.int .i64 24, .int .i64 8]] #[], .int .u64 a0_4] 117)).cell? ⟨w'.heap.size, 4, none⟩ = some (.func (.func 98) #[.agg #[.int .i64 5, .int .i64 6]] #[]) := by simp
  have d5 : (w'.alloc (.cells #[.func (.func 98) #[.agg #[.int .i64 0, .int .i64 3]] #[], .int .u64 (IntKind.u64.wrap a0_0), .func (.func 98) #[.agg #[.int .i64 3, .int .i64 2]] #[], .int .u64 (IntKind.u64.wrap a0_1), .func (.func 98) #[.agg #[.int .i64 5, .int .i64 6]] #[], .int .u64 (IntKind.u64.wrap a0_2), .func (.func 98) #[.agg #[.int .i64 11, .int .i64 13]] #[], .int .u64 (IntKind.u64.wrap a0_3), .func (.func 98) #[.agg #[.int .i64 24, .int .i64 8]] #[], .int .u64 a0_4] 117)).cell? ⟨w'.heap.size, 5, none⟩ = some (.int .u64 (IntKind.u64.wrap a0_2)) := by simp
  have d6 : (w'.alloc (.cells #[.func (.func 98) #[.agg #[.int .i64 0, .int .i64 3]] #[], .int .u64 (IntKind.u64.wrap a0_0), .func (.func 98) #[.agg #[.int .i64 3, .int .i64 2]] #[], .int .u64 (IntKind.u64.wrap a0_1), .func (.func 98) #[.agg #[.int .i64 5, .int .i64 6]] #[], .int .u64 (IntKind.u64.wrap a0_2), .func (.func 98) #[.agg #[.int .i64 11, .int .i64 13]] #[], .int .u64 (IntKind.u64.wrap a0_3), .func (.func 98) #[.agg #[.int .i64 24, .int .i64 8]] #[], .int .u64 a0_4] 117)).cell? ⟨w'.heap.size, 6, none⟩ = some (.func (.func 98) #[.agg #[.int .i64 11, .int .i64 13]] #[]) := by simp
  have d7 : (w'.alloc (.cells #[.func (.func 98) #[.agg #[.int .i64 0, .int .i64 3]] #[], .int .u64 (IntKind.u64.wrap a0_0), .func (.func 98) #[.agg #[.int .i64 3, .int .i64 2]] #[], .int .u64 (IntKind.u64.wrap a0_1), .func (.func 98) #[.agg #[.int .i64 5, .int .i64 6]] #[], .int .u64 (IntKind.u64.wrap a0_2), .func (.func 98) #[.agg #[.int .i64 11, .int .i64 13]] #[], .int .u64 (IntKind.u64.wrap a0_3), .func (.func 98) #[.agg #[.int .i64 24, .int .i64 8]] #[], .int .u64 a0_4] 117)).cell? ⟨w'.heap.size, 7, none⟩ = some (.int .u64 (IntKind.u64.wrap a0_3)) := by simp
  have d8 : (w'.alloc (.cells #[.func (.func 98) #[.agg #[.int .i64 0, .int .i64 3]] #[], .int .u64 (IntKind.u64.wrap a0_0), .func (.func 98) #[.agg #[.int .i64 3, .int .i64 2]] #[], .int .u64 (IntKind.u64.wrap a0_1), .func (.func 98) #[.agg #[.int .i64 5, .int .i64 6]] #[], .int .u64 (IntKind.u64.wrap a0_2), .func (.func 98) #[.agg #[.int .i64 11, .int .i64 13]] #[], .int .u64 (IntKind.u64.wrap a0_3), .func (.func 98) #[.agg #[.int .i64 24, .int .i64 8]] #[], .int .u64 a0_4] 117)).cell? ⟨w'.heap.size, 8, none⟩ = some (.func (.func 98) #[.agg #[.int .i64 24, .int .i64 8]] #[]) := by simp
  have d9 : (w'.alloc (.cells #[.func (.func 98) #[.agg #[.int .i64 0, .int .i64 3]] #[], .int .u64 (IntKind.u64.wrap a0_0), .func (.func 98) #[.agg #[.int .i64 3, .int .i64 2]] #[], .int .u64 (IntKind.u64.wrap a0_1), .func (.func 98) #[.agg #[.int .i64 5, .int .i64 6]] #[], .int .u64 (IntKind.u64.wrap a0_2), .func (.func 98) #[.agg #[.int .i64 11, .int .i64 13]] #[], .int .u64 (IntKind.u64.wrap a0_3), .func (.func 98) #[.agg #[.int .i64 24, .int .i64 8]] #[], .int .u64 a0_4] 117)).cell? ⟨w'.heap.size, 9, none⟩ = some (.int .u64 a0_4) := by simp
  clear hHeld
  generalize w'.alloc (.cells #[.func (.func 98) #[.agg #[.int .i64 0, .int .i64 3]] #[], .int .u64 (IntKind.u64.wrap a0_0), .func (.func 98) #[.agg #[.int .i64 3, .int .i64 2]] #[], .int .u64 (IntKind.u64.wrap a0_1), .func (.func 98) #[.agg #[.int .i64 5, .int .i64 6]] #[], .int .u64 (IntKind.u64.wrap a0_2), .func (.func 98) #[.agg #[.int .i64 11, .int .i64 13]] #[], .int .u64 (IntKind.u64.wrap a0_3), .func (.func 98) #[.agg #[.int .i64 24, .int .i64 8]] #[], .int .u64 a0_4] 117) = W0 at *
  generalize w'.heap.size = g at *
  clear hbn
  refine wp_loop_rounds 6 ?_
  rw [rounds_succ]
  go_wp2_with (go_at_call 98; (with_reducible refine (chunk_place_put.calls 0 3 0 (IntKind.u64.wrap a0_0) w1 _ H1.out).mono ?_); rintro e W1 ⟨rfl, bn⟩)
  have B1 : Below W0.heap.size W0 W1 := below_step ((Below.refl _ _).alloc (Nat.le_refl _) _) bn
  clear bn
  replace hB := below_step hB B1
  replace d0 := pw_cell_below B1 d0
  replace d1 := pw_cell_below B1 d1
  replace d2 := pw_cell_below B1 d2
  replace d3 := pw_cell_below B1 d3
  replace d4 := pw_cell_below B1 d4
  replace d5 := pw_cell_below B1 d5
  replace d6 := pw_cell_below B1 d6
  replace d7 := pw_cell_below B1 d7
  replace d8 := pw_cell_below B1 d8
  replace d9 := pw_cell_below B1 d9
  clear B1
  rw [rounds_succ]
  go_wp2_with (go_at_call 98; (with_reducible refine (chunk_place_put.calls 3 2 w1 (IntKind.u64.wrap a0_1) w2 _ H2.out).mono ?_); rintro e W2 ⟨rfl, bn⟩)
  have B2 : Below W1.heap.size W1 W2 := below_step ((Below.refl _ _).alloc (Nat.le_refl _) _) bn
  clear bn
  replace hB := below_step hB B2
  replace d0 := pw_cell_below B2 d0
  replace d1 := pw_cell_below B2 d1
  replace d2 := pw_cell_below B2 d2
  replace d3 := pw_cell_below B2 d3
  replace d4 := pw_cell_below B2 d4
  replace d5 := pw_cell_below B2 d5
  replace d6 := pw_cell_below B2 d6
  replace d7 := pw_cell_below B2 d7
  replace d8 := pw_cell_below B2 d8
  replace d9 := pw_cell_below B2 d9
  clear B2
  rw [rounds_succ]
  go_wp2_with (go_at_call 98; (with_reducible refine (chunk_place_put.calls 5 6 w2 (IntKind.u64.wrap a0_2) w3 _ H3.out).mono ?_); rintro e W3 ⟨rfl, bn⟩)
  have B3 : Below W2.heap.size W2 W3 := below_step ((Below.refl _ _).alloc (Nat.le_refl _) _) bn
  clear bn
  replace hB := below_step hB B3
  replace d0 := pw_cell_below B3 d0
  replace d1 := pw_cell_below B3 d1
  replace d2 := pw_cell_below B3 d2
  replace d3 := pw_cell_below B3 d3
  replace d4 := pw_cell_below B3 d4
  replace d5 := pw_cell_below B3 d5
  replace d6 := pw_cell_below B3 d6
  replace d7 := pw_cell_below B3 d7
  replace d8 := pw_cell_below B3 d8
  replace d9 := pw_cell_below B3 d9
  clear B3
  rw [rounds_succ]
  go_wp2_with (go_at_call 98; (with_reducible refine (chunk_place_put.calls 11 13 w3 (IntKind.u64.wrap a0_3) w4 _ H4.out).mono ?_); rintro e W4 ⟨rfl, bn⟩)
  have B4 : Below W3.heap.size W3 W4 := below_step ((Below.refl _ _).alloc (Nat.le_refl _) _) bn
  clear bn
  replace hB := below_step hB B4
  replace d0 := pw_cell_below B4 d0
  replace d1 := pw_cell_below B4 d1
  replace d2 := pw_cell_below B4 d2
  replace d3 := pw_cell_below B4 d3
  replace d4 := pw_cell_below B4 d4
  replace d5 := pw_cell_below B4 d5
  replace d6 := pw_cell_below B4 d6
  replace d7 := pw_cell_below B4 d7
  replace d8 := pw_cell_below B4 d8
  replace d9 := pw_cell_below B4 d9
  clear B4
  rw [rounds_succ]
  go_wp2_with (go_at_call 98; (with_reducible refine (chunk_place_put.calls 24 8 w4 a0_4 r _ H5.out).mono ?_); rintro e W5 ⟨rfl, bn⟩)
  have B5 : Below W4.heap.size W4 W5 := below_step ((Below.refl _ _).alloc (Nat.le_refl _) _) bn
  clear bn
  replace hB := below_step hB B5
  replace d0 := pw_cell_below B5 d0
  replace d1 := pw_cell_below B5 d1
  replace d2 := pw_cell_below B5 d2
  replace d3 := pw_cell_below B5 d3
  replace d4 := pw_cell_below B5 d4
  replace d5 := pw_cell_below B5 d5
  replace d6 := pw_cell_below B5 d6
  replace d7 := pw_cell_below B5 d7
  replace d8 := pw_cell_below B5 d8
  replace d9 := pw_cell_below B5 d9
  clear B5
  rw [rounds_succ]
  go_wp2
  go_ret
  exact ⟨rfl, hB⟩

end Go.Proofs.YtflbmccjfnkflaaDoor.Q
