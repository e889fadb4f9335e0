import Derived.Test.YtbbpcbjgekencaaGreatDoorM4
import Derived.Laws.EntriesVeiled
import Derived.LoopN
section
set_option linter.unusedVariables false
set_option linter.unusedSimpArgs false
set_option linter.unusedVariables false
set_option linter.unusedSimpArgs false
namespace Go.Proofs.YtbbpcbjgekencaaGreatDoor.H
open Go Go.RowKit Go.Proofs.YtbbpcbjgekencaaGreatDoorW.PrintWords Go.Proofs.YtbbpcbjgekencaaGreatDoorW.PrintLast Go.Proofs.YtbbpcbjgekencaaGreatDoorW.PrintMore Go.Proofs.YtbbpcbjgekencaaGreatDoor.Q
attribute [local go_sem] max2_int min2_int max_two min_two max_three min_three max_four min_four
noncomputable def chunk_word.f (a0_0 a0_1 a0_2 a0_3 a0_4 : Int) : Option Int :=
 (chunk_place_put.f 0 3 0 (IntKind.u64.wrap a0_0)).bind fun w1 => (chunk_place_put.f 3 2 w1 (IntKind.u64.wrap a0_1)).bind fun w2 => (chunk_place_put.f 5 6 w2 (IntKind.u64.wrap a0_2)).bind fun w3 =>
  (chunk_place_put.f 11 13 w3 (IntKind.u64.wrap a0_3)).bind fun w4 => chunk_place_put.f 24 8 w4 a0_4
theorem wd_keep {w w1 w2 : World} {c0 c1 c2 c3 c4 : Addr} {v0 v1 v2 v3 v4 : Value} (hb : Below w1.heap.size w1 w2)
  (h : w1.cell? c0 = some v0 ∧ w1.cell? c1 = some v1 ∧ w1.cell? c2 = some v2 ∧ w1.cell? c3 = some v3 ∧ w1.cell? c4 = some v4 ∧ Below w.heap.size w w1) :
  w2.cell? c0 = some v0 ∧ w2.cell? c1 = some v1 ∧ w2.cell? c2 = some v2 ∧ w2.cell? c3 = some v3 ∧ w2.cell? c4 = some v4 ∧ Below w.heap.size w w2 :=
 ⟨pw_cell_below hb h.1, pw_cell_below hb h.2.1, pw_cell_below hb h.2.2.1, pw_cell_below hb h.2.2.2.1, pw_cell_below hb h.2.2.2.2.1, below_step h.2.2.2.2.2 hb⟩
set_option maxHeartbeats 4000000 in
set_option maxRecDepth 100000 in
theorem chunk_word.calls (a0_0 a0_1 a0_2 a0_3 a0_4 : Int) (r : Int) (w : World) (h : chunk_word.f a0_0 a0_1 a0_2 a0_3 a0_4 = some r) :
  Calls Tryz.prog 131 #[.agg #[.int .i64 a0_0, .int .i64 a0_1, .int .i64 a0_2, .int .i64 a0_3, .int .u64 a0_4]] w fun e w' => e = .returned (.int .u64 r) ∧ Below w.heap.size w w' := by
 unfold chunk_word.f at h
 obtain ⟨w1, h1, h⟩ := Option.bind_eq_some_iff.mp h
 obtain ⟨w2, h2, h⟩ := Option.bind_eq_some_iff.mp h
 obtain ⟨w3, h3, h⟩ := Option.bind_eq_some_iff.mp h
 obtain ⟨w4, h4, h5⟩ := Option.bind_eq_some_iff.mp h
 have H1 := Aside0.mk h1
 have H2 := Aside0.mk h2
 have H3 := Aside0.mk h3
 have H4 := Aside0.mk h4
 have H5 := Aside0.mk h5
 clear h h1 h2 h3 h4 h5
 have hu := Tryz.underlying114
 go_enter Tryz.func131, Tryz.ntmps131
 go_wp2
 have b0 : Below w.heap.size w (w.alloc (.cells #[.int .i64 a0_0, .int .i64 a0_1, .int .i64 a0_2, .int .i64 a0_3, .int .u64 a0_4] 114)) := (Below.refl _ w).alloc (Nat.le_refl _) _
 have c0 : (w.alloc (.cells #[.int .i64 a0_0, .int .i64 a0_1, .int .i64 a0_2, .int .i64 a0_3, .int .u64 a0_4] 114)).cell? ⟨w.heap.size, 0, none⟩ = some (.int .i64 a0_0) := by simp
 have c1 : (w.alloc (.cells #[.int .i64 a0_0, .int .i64 a0_1, .int .i64 a0_2, .int .i64 a0_3, .int .u64 a0_4] 114)).cell? ⟨w.heap.size, 1, none⟩ = some (.int .i64 a0_1) := by simp
 have c2 : (w.alloc (.cells #[.int .i64 a0_0, .int .i64 a0_1, .int .i64 a0_2, .int .i64 a0_3, .int .u64 a0_4] 114)).cell? ⟨w.heap.size, 2, none⟩ = some (.int .i64 a0_2) := by simp
 have c3 : (w.alloc (.cells #[.int .i64 a0_0, .int .i64 a0_1, .int .i64 a0_2, .int .i64 a0_3, .int .u64 a0_4] 114)).cell? ⟨w.heap.size, 3, none⟩ = some (.int .i64 a0_3) := by simp
 have c4 : (w.alloc (.cells #[.int .i64 a0_0, .int .i64 a0_1, .int .i64 a0_2, .int .i64 a0_3, .int .u64 a0_4] 114)).cell? ⟨w.heap.size, 4, none⟩ = some (.int .u64 a0_4) := by simp
 generalize w.alloc (.cells #[.int .i64 a0_0, .int .i64 a0_1, .int .i64 a0_2, .int .i64 a0_3, .int .u64 a0_4] 114) = wo at *
 have hc := And.intro c0 (And.intro c1 (And.intro c2 (And.intro c3 (And.intro c4 b0))))
 clear c0 c1 c2 c3 c4 b0
 refine wp_region_noPanic ?_
 refine wp_region_held_drew (S := (fun w' => w'.cell? ⟨w.heap.size, 0, none⟩ = some (.int .i64 a0_0) ∧ w'.cell? ⟨w.heap.size, 1, none⟩ = some (.int .i64 a0_1) ∧ w'.cell? ⟨w.heap.size, 2, none⟩ = some (.int .i64 a0_2) ∧ w'.cell? ⟨w.heap.size, 3, none⟩ = some (.int .i64 a0_3) ∧ w'.cell? ⟨w.heap.size, 4, none⟩ = some (.int .u64 a0_4) ∧ Below w.heap.size w w')) (by kernel_rfl) (wd_keep (below_drew1 (Below.refl _ _)) (by assumption)) (fun hHeld => ?_)
 refine wpAnyH_take (i := 2) (v := ?_) rfl (by kernel_rfl) (by kernel_rfl) (by kernel_rfl) (fun _ _ _ h => h) (Or.inl ⟨rfl, ?_⟩) (by assumption) ?_
 rotate_left
 ·intro w hSw; (try dsimp only at hSw); first | (go_simp; done) | (go_simp; with_reducible rfl)
 simp only [Act.put, List.setIfInBounds_toArray, List.set_cons_zero, List.set_cons_succ]
 refine wpAnyH_take (i := 3) (v := ?_) rfl (by kernel_rfl) (by kernel_rfl) (by kernel_rfl) (fun _ _ _ h => h) (Or.inl ⟨rfl, ?_⟩) (by assumption) ?_
 rotate_left
 ·intro w hSw; (try dsimp only at hSw); first | (go_simp; done) | (go_simp; with_reducible rfl)
 simp only [Act.put, List.setIfInBounds_toArray, List.set_cons_zero, List.set_cons_succ]
 refine wpAnyH_take (i := 4) (v := ?_) rfl (by kernel_rfl) (by kernel_rfl) (by kernel_rfl) (fun _ _ _ h => h) (Or.inl ⟨rfl, ?_⟩) (by assumption) ?_
 rotate_left
 ·intro w hSw; (try dsimp only at hSw); first | (go_simp; done) | (go_simp; with_reducible rfl)
 simp only [Act.put, List.setIfInBounds_toArray, List.set_cons_zero, List.set_cons_succ]
 refine wpAnyH_take (i := 8) (v := ?_) rfl (by kernel_rfl) (by kernel_rfl) (by kernel_rfl) (fun _ _ _ h => h) (Or.inl ⟨rfl, ?_⟩) (by assumption) ?_
 rotate_left
 ·intro w hSw; (try dsimp only at hSw); first | (go_simp; done) | (go_simp; with_reducible rfl)
 simp only [Act.put, List.setIfInBounds_toArray, List.set_cons_zero, List.set_cons_succ]
 refine wpAnyH_take (i := 9) (v := ?_) rfl (by kernel_rfl) (by kernel_rfl) (by kernel_rfl) (fun _ _ _ h => h) (Or.inl ⟨rfl, ?_⟩) (by assumption) ?_
 rotate_left
 ·intro w hSw; (try dsimp only at hSw); first | (go_simp; done) | (go_simp; with_reducible rfl)
 simp only [Act.put, List.setIfInBounds_toArray, List.set_cons_zero, List.set_cons_succ]
 refine wpAnyH_take (i := 10) (v := ?_) rfl (by kernel_rfl) (by kernel_rfl) (by kernel_rfl) (fun _ _ _ h => h) (Or.inl ⟨rfl, ?_⟩) (by assumption) ?_
 rotate_left
 ·intro w hSw; (try dsimp only at hSw); first | (go_simp; done) | (go_simp; with_reducible rfl)
 simp only [Act.put, List.setIfInBounds_toArray, List.set_cons_zero, List.set_cons_succ]
 refine wpAnyH_take (i := 14) (v := ?_) rfl (by kernel_rfl) (by kernel_rfl) (by kernel_rfl) (fun _ _ _ h => h) (Or.inl ⟨rfl, ?_⟩) (by assumption) ?_
 rotate_left
 ·intro w hSw; (try dsimp only at hSw); first | (go_simp; done) | (go_simp; with_reducible rfl)
 simp only [Act.put, List.setIfInBounds_toArray, List.set_cons_zero, List.set_cons_succ]
 refine wpAnyH_take (i := 15) (v := ?_) rfl (by kernel_rfl) (by kernel_rfl) (by kernel_rfl) (fun _ _ _ h => h) (Or.inl ⟨rfl, ?_⟩) (by assumption) ?_
 rotate_left
 ·intro w hSw; (try dsimp only at hSw); first | (go_simp; done) | (go_simp; with_reducible rfl)
 simp only [Act.put, List.setIfInBounds_toArray, List.set_cons_zero, List.set_cons_succ]
 refine wpAnyH_take (i := 16) (v := ?_) rfl (by kernel_rfl) (by kernel_rfl) (by kernel_rfl) (fun _ _ _ h => h) (Or.inl ⟨rfl, ?_⟩) (by assumption) ?_
 rotate_left
 ·intro w hSw; (try dsimp only at hSw); first | (go_simp; done) | (go_simp; with_reducible rfl)
 simp only [Act.put, List.setIfInBounds_toArray, List.set_cons_zero, List.set_cons_succ]
 refine wpAnyH_take (i := 20) (v := ?_) rfl (by kernel_rfl) (by kernel_rfl) (by kernel_rfl) (fun _ _ _ h => h) (Or.inl ⟨rfl, ?_⟩) (by assumption) ?_
 rotate_left
 ·intro w hSw; (try dsimp only at hSw); first | (go_simp; done) | (go_simp; with_reducible rfl)
 simp only [Act.put, List.setIfInBounds_toArray, List.set_cons_zero, List.set_cons_succ]
 refine wpAnyH_take (i := 21) (v := ?_) rfl (by kernel_rfl) (by kernel_rfl) (by kernel_rfl) (fun _ _ _ h => h) (Or.inl ⟨rfl, ?_⟩) (by assumption) ?_
 rotate_left
 ·intro w hSw; (try dsimp only at hSw); first | (go_simp; done) | (go_simp; with_reducible rfl)
 simp only [Act.put, List.setIfInBounds_toArray, List.set_cons_zero, List.set_cons_succ]
 refine wpAnyH_take (i := 22) (v := ?_) rfl (by kernel_rfl) (by kernel_rfl) (by kernel_rfl) (fun _ _ _ h => h) (Or.inl ⟨rfl, ?_⟩) (by assumption) ?_
 rotate_left
 ·intro w hSw; (try dsimp only at hSw); first | (go_simp; done) | (go_simp; with_reducible rfl)
 simp only [Act.put, List.setIfInBounds_toArray, List.set_cons_zero, List.set_cons_succ]
 refine wpAnyH_take (i := 26) (v := ?_) rfl (by kernel_rfl) (by kernel_rfl) (by kernel_rfl) (fun _ _ _ h => h) (Or.inl ⟨rfl, ?_⟩) (by assumption) ?_
 rotate_left
 ·intro w hSw; (try dsimp only at hSw); first | (go_simp; done) | (go_simp; with_reducible rfl)
 simp only [Act.put, List.setIfInBounds_toArray, List.set_cons_zero, List.set_cons_succ]
 refine wpAnyH_take (i := 27) (v := ?_) rfl (by kernel_rfl) (by kernel_rfl) (by kernel_rfl) (fun _ _ _ h => h) (Or.inl ⟨rfl, ?_⟩) (by assumption) ?_
 rotate_left
 ·intro w hSw; (try dsimp only at hSw); first | (go_simp; done) | (go_simp; with_reducible rfl)
 simp only [Act.put, List.setIfInBounds_toArray, List.set_cons_zero, List.set_cons_succ]
 refine wpAnyH_take (i := 31) (v := ?_) rfl (by kernel_rfl) (by kernel_rfl) (by kernel_rfl) (fun _ _ _ h => h) (Or.inl ⟨rfl, ?_⟩) (by assumption) ?_
 rotate_left
 ·intro w hSw; (try dsimp only at hSw); first | (go_simp; done) | (go_simp; with_reducible rfl)
 simp only [Act.put, List.setIfInBounds_toArray, List.set_cons_zero, List.set_cons_succ]
 refine wpAnyH_ready (rs := [0]) (by kernel_rfl) (by simp) ?_
 refine AllReadyH.cons rfl (fun K hK => ?_) AllReadyH.nil
 go_simp
 go_at_call 124
 (with_reducible refine (chunk_kinds.calls 0 3 _ rfl).mono ?_)
 rintro e w' ⟨rfl, hbn⟩
 try go_wp2_with fail
 refine hK.out _ _ (wd_keep hbn (by assumption)) (fun hHeld => ?_)
 clear hK K
 try simp only [Act.put, List.setIfInBounds_toArray, List.set_cons_zero, List.set_cons_succ]
 refine wpAnyH_take (i := 1) (v := ?_) rfl (by kernel_rfl) (by kernel_rfl) (by kernel_rfl) (fun _ _ _ h => h) (Or.inl ⟨rfl, ?_⟩) (by assumption) ?_
 rotate_left
 ·intro w hSw; (try dsimp only at hSw); first | (go_simp; done) | (go_simp; with_reducible rfl)
 simp only [Act.put, List.setIfInBounds_toArray, List.set_cons_zero, List.set_cons_succ]
 refine wpAnyH_take (i := 5) (v := ?_) rfl (by kernel_rfl) (by kernel_rfl) (by kernel_rfl) (fun _ _ _ h => h) (Or.inl ⟨rfl, ?_⟩) (by assumption) ?_
 rotate_left
 ·intro w hSw; (try dsimp only at hSw); first | (go_simp; done) | (go_simp; with_reducible rfl)
 simp only [Act.put, List.setIfInBounds_toArray, List.set_cons_zero, List.set_cons_succ]
 refine wpAnyH_ready (rs := [6]) (by kernel_rfl) (by simp) ?_
 refine AllReadyH.cons rfl (fun K hK => ?_) AllReadyH.nil
 go_simp
 go_at_call 126
 (with_reducible refine (chunk_classes.calls 3 2 _ rfl).mono ?_)
 rintro e w' ⟨rfl, hbn⟩
 try go_wp2_with fail
 refine hK.out _ _ (wd_keep hbn (by assumption)) (fun hHeld => ?_)
 clear hK K
 try simp only [Act.put, List.setIfInBounds_toArray, List.set_cons_zero, List.set_cons_succ]
 refine wpAnyH_take (i := 7) (v := ?_) rfl (by kernel_rfl) (by kernel_rfl) (by kernel_rfl) (fun _ _ _ h => h) (Or.inl ⟨rfl, ?_⟩) (by assumption) ?_
 rotate_left
 ·intro w hSw; (try dsimp only at hSw); first | (go_simp; done) | (go_simp; with_reducible rfl)
 simp only [Act.put, List.setIfInBounds_toArray, List.set_cons_zero, List.set_cons_succ]
 refine wpAnyH_take (i := 11) (v := ?_) rfl (by kernel_rfl) (by kernel_rfl) (by kernel_rfl) (fun _ _ _ h => h) (Or.inl ⟨rfl, ?_⟩) (by assumption) ?_
 rotate_left
 ·intro w hSw; (try dsimp only at hSw); first | (go_simp; done) | (go_simp; with_reducible rfl)
 simp only [Act.put, List.setIfInBounds_toArray, List.set_cons_zero, List.set_cons_succ]
 refine wpAnyH_ready (rs := [12]) (by kernel_rfl) (by simp) ?_
 refine AllReadyH.cons rfl (fun K hK => ?_) AllReadyH.nil
 go_simp
 go_at_call 127
 (with_reducible refine (chunk_lanes.calls 5 6 _ rfl).mono ?_)
 rintro e w' ⟨rfl, hbn⟩
 try go_wp2_with fail
 refine hK.out _ _ (wd_keep hbn (by assumption)) (fun hHeld => ?_)
 clear hK K
 try simp only [Act.put, List.setIfInBounds_toArray, List.set_cons_zero, List.set_cons_succ]
 refine wpAnyH_take (i := 13) (v := ?_) rfl (by kernel_rfl) (by kernel_rfl) (by kernel_rfl) (fun _ _ _ h => h) (Or.inl ⟨rfl, ?_⟩) (by assumption) ?_
 rotate_left
 ·intro w hSw; (try dsimp only at hSw); first | (go_simp; done) | (go_simp; with_reducible rfl)
 simp only [Act.put, List.setIfInBounds_toArray, List.set_cons_zero, List.set_cons_succ]
 refine wpAnyH_take (i := 17) (v := ?_) rfl (by kernel_rfl) (by kernel_rfl) (by kernel_rfl) (fun _ _ _ h => h) (Or.inl ⟨rfl, ?_⟩) (by assumption) ?_
 rotate_left
 ·intro w hSw; (try dsimp only at hSw); first | (go_simp; done) | (go_simp; with_reducible rfl)
 simp only [Act.put, List.setIfInBounds_toArray, List.set_cons_zero, List.set_cons_succ]
 refine wpAnyH_ready (rs := [18]) (by kernel_rfl) (by simp) ?_
 refine AllReadyH.cons rfl (fun K hK => ?_) AllReadyH.nil
 go_simp
 go_at_call 128
 (with_reducible refine (chunk_manys.calls 11 13 _ rfl).mono ?_)
 rintro e w' ⟨rfl, hbn⟩
 try go_wp2_with fail
 refine hK.out _ _ (wd_keep hbn (by assumption)) (fun hHeld => ?_)
 clear hK K
 try simp only [Act.put, List.setIfInBounds_toArray, List.set_cons_zero, List.set_cons_succ]
 refine wpAnyH_take (i := 19) (v := ?_) rfl (by kernel_rfl) (by kernel_rfl) (by kernel_rfl) (fun _ _ _ h => h) (Or.inl ⟨rfl, ?_⟩) (by assumption) ?_
 rotate_left
 ·intro w hSw; (try dsimp only at hSw); first | (go_simp; done) | (go_simp; with_reducible rfl)
 simp only [Act.put, List.setIfInBounds_toArray, List.set_cons_zero, List.set_cons_succ]
 refine wpAnyH_take (i := 23) (v := ?_) rfl (by kernel_rfl) (by kernel_rfl) (by kernel_rfl) (fun _ _ _ h => h) (Or.inl ⟨rfl, ?_⟩) (by assumption) ?_
 rotate_left
 ·intro w hSw; (try dsimp only at hSw); first | (go_simp; done) | (go_simp; with_reducible rfl)
 simp only [Act.put, List.setIfInBounds_toArray, List.set_cons_zero, List.set_cons_succ]
 refine wpAnyH_ready (rs := [24]) (by kernel_rfl) (by simp) ?_
 refine AllReadyH.cons rfl (fun K hK => ?_) AllReadyH.nil
 go_simp
 go_at_call 129
 (with_reducible refine (chunk_bits.calls 24 8 _ rfl).mono ?_)
 rintro e w' ⟨rfl, hbn⟩
 try go_wp2_with fail
 refine hK.out _ _ (wd_keep hbn (by assumption)) (fun hHeld => ?_)
 clear hK K
 try simp only [Act.put, List.setIfInBounds_toArray, List.set_cons_zero, List.set_cons_succ]
 refine wpAnyH_take (i := 25) (v := ?_) rfl (by kernel_rfl) (by kernel_rfl) (by kernel_rfl) (fun _ _ _ h => h) (Or.inl ⟨rfl, ?_⟩) (by assumption) ?_
 rotate_left
 ·intro w hSw; (try dsimp only at hSw); first | (go_simp; done) | (go_simp; with_reducible rfl)
 simp only [Act.put, List.setIfInBounds_toArray, List.set_cons_zero, List.set_cons_succ]
 refine wpAnyH_take (i := 28) (v := ?_) rfl (by kernel_rfl) (by kernel_rfl) (by kernel_rfl) (fun _ _ _ h => h) (Or.inl ⟨rfl, ?_⟩) (by assumption) ?_
 rotate_left
 ·intro w hSw; (try dsimp only at hSw); first | (go_simp; done) | (go_simp; with_reducible rfl)
 simp only [Act.put, List.setIfInBounds_toArray, List.set_cons_zero, List.set_cons_succ]
 refine wpAnyH_ready (rs := [29]) (by kernel_rfl) (by simp) ?_
 refine AllReadyH.cons rfl (fun K hK => ?_) AllReadyH.nil
 go_simp
 refine hK.out _ _ (wd_keep ((Below.refl _ _).alloc (Nat.le_refl _) _) (by assumption)) (fun hHeld => ?_)
 clear hK K
 try simp only [Act.put, List.setIfInBounds_toArray, List.set_cons_zero, List.set_cons_succ]
 refine wpAnyH_take (i := 30) (v := ?_) rfl (by kernel_rfl) (by kernel_rfl) (by kernel_rfl) (fun _ _ _ h => h) (Or.inl ⟨rfl, ?_⟩) (by assumption) ?_
 rotate_left
 ·intro w hSw; (try dsimp only at hSw); first | (go_simp; done) | (go_simp; with_reducible rfl)
 simp only [Act.put, List.setIfInBounds_toArray, List.set_cons_zero, List.set_cons_succ]
 try simp only [List.getElem_toArray, List.getElem_cons_succ, List.getElem_cons_zero, Act.put, List.setIfInBounds_toArray, List.set_cons_zero, List.set_cons_succ]
 refine wpAnyH_done (by kernel_rfl) ?_ _
 refine NoPanic.normal ?_
 go_wp2
 try simp only [Act.put, List.setIfInBounds_toArray, List.set_cons_zero, List.set_cons_succ]
 have hB : Below w.heap.size w (w'.alloc (.cells #[.func (.func 138) #[.agg #[.int .i64 0, .int .i64 3]] #[], .int .u64 (IntKind.u64.wrap a0_0), .func (.func 138) #[.agg #[.int .i64 3, .int .i64 2]] #[], .int .u64 (IntKind.u64.wrap a0_1), .func (.func 138) #[.agg #[.int .i64 5, .int .i64 6]] #[], .int .u64 (IntKind.u64.wrap a0_2), .func (.func 138) #[.agg #[.int .i64 11, .int .i64 13]] #[], .int .u64 (IntKind.u64.wrap a0_3), .func (.func 138) #[.agg #[.int .i64 24, .int .i64 8]] #[], .int .u64 a0_4] 176)) := below_step hHeld.2.2.2.2.2 (Below.refl _ _)
 have d0 : (w'.alloc (.cells #[.func (.func 138) #[.agg #[.int .i64 0, .int .i64 3]] #[], .int .u64 (IntKind.u64.wrap a0_0), .func (.func 138) #[.agg #[.int .i64 3, .int .i64 2]] #[], .int .u64 (IntKind.u64.wrap a0_1), .func (.func 138) #[.agg #[.int .i64 5, .int .i64 6]] #[], .int .u64 (IntKind.u64.wrap a0_2), .func (.func 138) #[.agg #[.int .i64 11, .int .i64 13]] #[], .int .u64 (IntKind.u64.wrap a0_3), .func (.func 138) #[.agg #[.int .i64 24, .int .i64 8]] #[], .int .u64 a0_4] 176)).cell? ⟨w'.heap.size, 0, none⟩ = some (.func (.func 138) #[.agg #[.int .i64 0, .int .i64 3]] #[]) := by simp
 have d1 : (w'.alloc (.cells #[.func (.func 138) #[.agg #[.int .i64 0, .int .i64 3]] #[], .int .u64 (IntKind.u64.wrap a0_0), .func (.func 138) #[.agg #[.int .i64 3, .int .i64 2]] #[], .int .u64 (IntKind.u64.wrap a0_1), .func (.func 138) #[.agg #[.int .i64 5, .int .i64 6]] #[], .int .u64 (IntKind.u64.wrap a0_2), .func (.func 138) #[.agg #[.int .i64 11, .int .i64 13]] #[], .int .u64 (IntKind.u64.wrap a0_3), .func (.func 138) #[.agg #[.int .i64 24, .int .i64 8]] #[], .int .u64 a0_4] 176)).cell? ⟨w'.heap.size, 1, none⟩ = some (.int .u64 (IntKind.u64.wrap a0_0)) := by simp
 have d2 : (w'.alloc (.cells #[.func (.func 138) #[.agg #[.int .i64 0, .int .i64 3]] #[], .int .u64 (IntKind.u64.wrap a0_0), .func (.func 138) #[.agg #[.int .i64 3, .int .i64 2]] #[], .int .u64 (IntKind.u64.wrap a0_1), .func (.func 138) #[.agg #[.int .i64 5, .int .i64 6]] #[], .int .u64 (IntKind.u64.wrap a0_2), .func (.func 138) #[.agg #[.int .i64 11, .int .i64 13]] #[], .int .u64 (IntKind.u64.wrap a0_3), .func (.func 138) #[.agg #[.int .i64 24, .int .i64 8]] #[], .int .u64 a0_4] 176)).cell? ⟨w'.heap.size, 2, none⟩ = some (.func (.func 138) #[.agg #[.int .i64 3, .int .i64 2]] #[]) := by simp
 have d3 : (w'.alloc (.cells #[.func (.func 138) #[.agg #[.int .i64 0, .int .i64 3]] #[], .int .u64 (IntKind.u64.wrap a0_0), .func (.func 138) #[.agg #[.int .i64 3, .int .i64 2]] #[], .int .u64 (IntKind.u64.wrap a0_1), .func (.func 138) #[.agg #[.int .i64 5, .int .i64 6]] #[], .int .u64 (IntKind.u64.wrap a0_2), .func (.func 138) #[.agg #[.int .i64 11, .int .i64 13]] #[], .int .u64 (IntKind.u64.wrap a0_3), .func (.func 138) #[.agg #[.int .i64 24, .int .i64 8]] #[], .int .u64 a0_4] 176)).cell? ⟨w'.heap.size, 3, none⟩ = some (.int .u64 (IntKind.u64.wrap a0_1)) := by simp
 have d4 : (w'.alloc (.cells #[.func (.func 138) #[.agg #[.int .i64 0, .int .i64 3]] #[], .int .u64 (IntKind.u64.wrap a0_0), .func (.func 138) #[.agg #[.int .i64 3, .int .i64 2]] #[], .int .u64 (IntKind.u64.wrap a0_1), .func (.func 138) #[.agg #[.int .i64 5, .int .i64 6]] #[], .int .u64 (IntKind.u64.wrap a0_2), .func (.func 138) #[.agg #[.int .i64 11, .int .i64 13]] #[], .int .u64 (IntKind.u64.wrap a0_3), .func (.func 138) #[.agg #[.int .i64 24, .int .i64 8]] #[], .int .u64 a0_4] 176)).cell? ⟨w'.heap.size, 4, none⟩ = some (.func (.func 138) #[.agg #[.int .i64 5, .int .i64 6]] #[]) := by simp
 have d5 : (w'.alloc (.cells #[.func (.func 138) #[.agg #[.int .i64 0, .int .i64 3]] #[], .int .u64 (IntKind.u64.wrap a0_0), .func (.func 138) #[.agg #[.int .i64 3, .int .i64 2]] #[], .int .u64 (IntKind.u64.wrap a0_1), .func (.func 138) #[.agg #[.int .i64 5, .int .i64 6]] #[], .int .u64 (IntKind.u64.wrap a0_2), .func (.func 138) #[.agg #[.int .i64 11, .int .i64 13]] #[], .int .u64 (IntKind.u64.wrap a0_3), .func (.func 138) #[.agg #[.int .i64 24, .int .i64 8]] #[], .int .u64 a0_4] 176)).cell? ⟨w'.heap.size, 5, none⟩ = some (.int .u64 (IntKind.u64.wrap a0_2)) := by simp
 have d6 : (w'.alloc (.cells #[.func (.func 138) #[.agg #[.int .i64 0, .int .i64 3]] #[], .int .u64 (IntKind.u64.wrap a0_0), .func (.func 138) #[.agg #[.int .i64 3, .int .i64 2]] #[], .int .u64 (IntKind.u64.wrap a0_1), .func (.func 138) #[.agg #[.int .i64 5, .int .i64 6]] #[], .int .u64 (IntKind.u64.wrap a0_2), .func (.func 138) #[.agg #[.int .i64 11, .int .i64 13]] #[], .int .u64 (IntKind.u64.wrap a0_3), .func (.func 138) #[.agg #[.int .i64 24, .int .i64 8]] #[], .int .u64 a0_4] 176)).cell? ⟨w'.heap.size, 6, none⟩ = some (.func (.func 138) #[.agg #[.int .i64 11, .int .i64 13]] #[]) := by simp
 have d7 : (w'.alloc (.cells #[.func (.func 138) #[.agg #[.int .i64 0, .int .i64 3]] #[], .int .u64 (IntKind.u64.wrap a0_0), .func (.func 138) #[.agg #[.int .i64 3, .int .i64 2]] #[], .int .u64 (IntKind.u64.wrap a0_1), .func (.func 138) #[.agg #[.int .i64 5, .int .i64 6]] #[], .int .u64 (IntKind.u64.wrap a0_2), .func (.func 138) #[.agg #[.int .i64 11, .int .i64 13]] #[], .int .u64 (IntKind.u64.wrap a0_3), .func (.func 138) #[.agg #[.int .i64 24, .int .i64 8]] #[], .int .u64 a0_4] 176)).cell? ⟨w'.heap.size, 7, none⟩ = some (.int .u64 (IntKind.u64.wrap a0_3)) := by simp
 have d8 : (w'.alloc (.cells #[.func (.func 138) #[.agg #[.int .i64 0, .int .i64 3]] #[], .int .u64 (IntKind.u64.wrap a0_0), .func (.func 138) #[.agg #[.int .i64 3, .int .i64 2]] #[], .int .u64 (IntKind.u64.wrap a0_1), .func (.func 138) #[.agg #[.int .i64 5, .int .i64 6]] #[], .int .u64 (IntKind.u64.wrap a0_2), .func (.func 138) #[.agg #[.int .i64 11, .int .i64 13]] #[], .int .u64 (IntKind.u64.wrap a0_3), .func (.func 138) #[.agg #[.int .i64 24, .int .i64 8]] #[], .int .u64 a0_4] 176)).cell? ⟨w'.heap.size, 8, none⟩ = some (.func (.func 138) #[.agg #[.int .i64 24, .int .i64 8]] #[]) := by simp
 have d9 : (w'.alloc (.cells #[.func (.func 138) #[.agg #[.int .i64 0, .int .i64 3]] #[], .int .u64 (IntKind.u64.wrap a0_0), .func (.func 138) #[.agg #[.int .i64 3, .int .i64 2]] #[], .int .u64 (IntKind.u64.wrap a0_1), .func (.func 138) #[.agg #[.int .i64 5, .int .i64 6]] #[], .int .u64 (IntKind.u64.wrap a0_2), .func (.func 138) #[.agg #[.int .i64 11, .int .i64 13]] #[], .int .u64 (IntKind.u64.wrap a0_3), .func (.func 138) #[.agg #[.int .i64 24, .int .i64 8]] #[], .int .u64 a0_4] 176)).cell? ⟨w'.heap.size, 9, none⟩ = some (.int .u64 a0_4) := by simp
 clear hHeld
 generalize w'.alloc (.cells #[.func (.func 138) #[.agg #[.int .i64 0, .int .i64 3]] #[], .int .u64 (IntKind.u64.wrap a0_0), .func (.func 138) #[.agg #[.int .i64 3, .int .i64 2]] #[], .int .u64 (IntKind.u64.wrap a0_1), .func (.func 138) #[.agg #[.int .i64 5, .int .i64 6]] #[], .int .u64 (IntKind.u64.wrap a0_2), .func (.func 138) #[.agg #[.int .i64 11, .int .i64 13]] #[], .int .u64 (IntKind.u64.wrap a0_3), .func (.func 138) #[.agg #[.int .i64 24, .int .i64 8]] #[], .int .u64 a0_4] 176) = W0 at *
 generalize w'.heap.size = g at *
 clear hbn
 refine wp_loop_rounds 6 ?_
 rw [rounds_succ]
 go_wp2_with (go_at_call 138; (with_reducible refine (chunk_place_put.calls 0 3 0 (IntKind.u64.wrap a0_0) w1 _ H1.out).mono ?_); rintro e W1 ⟨rfl, bn⟩)
 have B1 : Below W0.heap.size W0 W1 := below_step ((Below.refl _ _).alloc (Nat.le_refl _) _) bn
 clear bn
 replace hB := below_step hB B1
 replace d0 := pw_cell_below B1 d0
 replace d1 := pw_cell_below B1 d1
 replace d2 := pw_cell_below B1 d2
 replace d3 := pw_cell_below B1 d3
 replace d4 := pw_cell_below B1 d4
 replace d5 := pw_cell_below B1 d5
 replace d6 := pw_cell_below B1 d6
 replace d7 := pw_cell_below B1 d7
 replace d8 := pw_cell_below B1 d8
 replace d9 := pw_cell_below B1 d9
 clear B1
 rw [rounds_succ]
 go_wp2_with (go_at_call 138; (with_reducible refine (chunk_place_put.calls 3 2 w1 (IntKind.u64.wrap a0_1) w2 _ H2.out).mono ?_); rintro e W2 ⟨rfl, bn⟩)
 have B2 : Below W1.heap.size W1 W2 := below_step ((Below.refl _ _).alloc (Nat.le_refl _) _) bn
 clear bn
 replace hB := below_step hB B2
 replace d0 := pw_cell_below B2 d0
 replace d1 := pw_cell_below B2 d1
 replace d2 := pw_cell_below B2 d2
 replace d3 := pw_cell_below B2 d3
 replace d4 := pw_cell_below B2 d4
 replace d5 := pw_cell_below B2 d5
 replace d6 := pw_cell_below B2 d6
 replace d7 := pw_cell_below B2 d7
 replace d8 := pw_cell_below B2 d8
 replace d9 := pw_cell_below B2 d9
 clear B2
 rw [rounds_succ]
 go_wp2_with (go_at_call 138; (with_reducible refine (chunk_place_put.calls 5 6 w2 (IntKind.u64.wrap a0_2) w3 _ H3.out).mono ?_); rintro e W3 ⟨rfl, bn⟩)
 have B3 : Below W2.heap.size W2 W3 := below_step ((Below.refl _ _).alloc (Nat.le_refl _) _) bn
 clear bn
 replace hB := below_step hB B3
 replace d0 := pw_cell_below B3 d0
 replace d1 := pw_cell_below B3 d1
 replace d2 := pw_cell_below B3 d2
 replace d3 := pw_cell_below B3 d3
 replace d4 := pw_cell_below B3 d4
 replace d5 := pw_cell_below B3 d5
 replace d6 := pw_cell_below B3 d6
 replace d7 := pw_cell_below B3 d7
 replace d8 := pw_cell_below B3 d8
 replace d9 := pw_cell_below B3 d9
 clear B3
 rw [rounds_succ]
 go_wp2_with (go_at_call 138; (with_reducible refine (chunk_place_put.calls 11 13 w3 (IntKind.u64.wrap a0_3) w4 _ H4.out).mono ?_); rintro e W4 ⟨rfl, bn⟩)
 have B4 : Below W3.heap.size W3 W4 := below_step ((Below.refl _ _).alloc (Nat.le_refl _) _) bn
 clear bn
 replace hB := below_step hB B4
 replace d0 := pw_cell_below B4 d0
 replace d1 := pw_cell_below B4 d1
 replace d2 := pw_cell_below B4 d2
 replace d3 := pw_cell_below B4 d3
 replace d4 := pw_cell_below B4 d4
 replace d5 := pw_cell_below B4 d5
 replace d6 := pw_cell_below B4 d6
 replace d7 := pw_cell_below B4 d7
 replace d8 := pw_cell_below B4 d8
 replace d9 := pw_cell_below B4 d9
 clear B4
 rw [rounds_succ]
 go_wp2_with (go_at_call 138; (with_reducible refine (chunk_place_put.calls 24 8 w4 a0_4 r _ H5.out).mono ?_); rintro e W5 ⟨rfl, bn⟩)
 have B5 : Below W4.heap.size W4 W5 := below_step ((Below.refl _ _).alloc (Nat.le_refl _) _) bn
 clear bn
 replace hB := below_step hB B5
 replace d0 := pw_cell_below B5 d0
 replace d1 := pw_cell_below B5 d1
 replace d2 := pw_cell_below B5 d2
 replace d3 := pw_cell_below B5 d3
 replace d4 := pw_cell_below B5 d4
 replace d5 := pw_cell_below B5 d5
 replace d6 := pw_cell_below B5 d6
 replace d7 := pw_cell_below B5 d7
 replace d8 := pw_cell_below B5 d8
 replace d9 := pw_cell_below B5 d9
 clear B5
 rw [rounds_succ]
 go_wp2
 go_ret
 exact ⟨rfl, hB⟩
end Go.Proofs.YtbbpcbjgekencaaGreatDoor.H
end
section
set_option linter.unusedVariables false
set_option linter.unusedSimpArgs false
set_option linter.unusedVariables false
set_option linter.unusedSimpArgs false
set_option maxRecDepth 100000
noncomputable section
namespace Go.Proofs.YtbbpcbjgekencaaGreatDoor.FT
open Go Go.Proofs.YtbbpcbjgekencaaGreatDoor Go.Proofs.YtbbpcbjgekencaaGreatDoor.Ev Go.Proofs.YtbbpcbjgekencaaGreatDoor.Q
open Go.IntKind (i64 u64 u32)
variable (g : List (Nat × Nat × Value))
noncomputable def chunk_word.f (k : Nat) (a0_0 : Int) (a0_1 : Int) (a0_2 : Int) (a0_3 : Int) (a0_4 : Int) : Option (Int) := H.chunk_word.f a0_0 a0_1 a0_2 a0_3 a0_4
noncomputable def chunk_word.F : EvForm Γ := mkF [] [ta [qI, qI, qI, qI, qU]] [] (tc qU) [] chunk_word.f
theorem chunk_word.ok (g : List (Nat × Nat × Value)) : CallOk (Tg g) Tryz.prog 131 chunk_word.F.fn := by
 refine hand_ok Tryz.func131 (by kernel_rfl) (by kernel_rfl) _ rfl (fun k ats r hf E A w vals hv hg => ?_) (tab_ok g)
 have hf : chunk_word.f k (aI ats 0) (aI ats 1) (aI ats 2) (aI ats 3) (aI ats 4) = some r := hf
 unfold chunk_word.f at hf
 generalize hx0 : (aI ats 0) = x0 at hf
 generalize hx1 : (aI ats 1) = x1 at hf
 generalize hx2 : (aI ats 2) = x2 at hf
 generalize hx3 : (aI ats 3) = x3 at hf
 generalize hx4 : (aI ats 4) = x4 at hf
 have hv : ConcAs (Tg g) E (SB (Tg g) w (Ev.Own (T := (Tg g)) E []) A E [] w) w [.t (.agg [.c (.int .i64 x0), .c (.int .i64 x1), .c (.int .i64 x2), .c (.int .i64 x3), .c (.int .u64 x4)])] vals := by subst hx0; subst hx1; subst hx2; subst hx3; subst hx4; have := hv; exact this
 obtain ⟨u0, _, rfl, h0, hv1⟩ := concAs_uncons hv
 obtain ⟨us0, rfl, h0_l0⟩ := concA_agg h0
 obtain ⟨u0_0, _, rfl, h0_0, h0_l1⟩ := concL_uncons h0_l0
 obtain rfl := conc_c h0_0
 obtain ⟨u0_1, _, rfl, h0_1, h0_l2⟩ := concL_uncons h0_l1
 obtain rfl := conc_c h0_1
 obtain ⟨u0_2, _, rfl, h0_2, h0_l3⟩ := concL_uncons h0_l2
 obtain rfl := conc_c h0_2
 obtain ⟨u0_3, _, rfl, h0_3, h0_l4⟩ := concL_uncons h0_l3
 obtain rfl := conc_c h0_3
 obtain ⟨u0_4, _, rfl, h0_4, h0_l5⟩ := concL_uncons h0_l4
 obtain rfl := conc_c h0_4
 obtain rfl := concL_unnil h0_l5
 obtain rfl := concAs_unnil hv1
 have hc := H.chunk_word.calls x0 x1 x2 x3 x4 r w  hf
 refine hc.mono fun e w' h => ?_
 obtain ⟨rfl, hb⟩ := h
 exact ⟨_, E, rfl, hb, ofValue_conc _ _ rfl, memOk_nil, fun q h => absurd h own_none⟩
noncomputable def chunk_word.o (g : List (Nat × Nat × Value)) : FnOk (Tg g) Tryz.prog := ⟨131, chunk_word.F, chunk_word.ok g⟩
end Go.Proofs.YtbbpcbjgekencaaGreatDoor.FT
end
section
set_option linter.unusedVariables false
set_option linter.unusedSimpArgs false
set_option linter.unusedVariables false
set_option linter.unusedSimpArgs false
set_option maxRecDepth 100000
noncomputable section
namespace Go.Proofs.YtbbpcbjgekencaaGreatDoor.FT
open Go Go.Proofs.YtbbpcbjgekencaaGreatDoor Go.Proofs.YtbbpcbjgekencaaGreatDoor.Ev Go.Proofs.YtbbpcbjgekencaaGreatDoor.Q
open Go.IntKind (i64 u64 u32)
variable (g : List (Nat × Nat × Value))
def chunk_Decode.f (k : Nat) (a0 : Int) : Option (Int × Int × Int × Int × Int × Bool) := ((chunk_kinds.f k).bind fun y0 => ((chunk_place_get.f k y0.fst y0.snd a0).bind fun y1 => ((chunk_classes.f k).bind fun y2 => ((chunk_place_get.f k y2.fst y2.snd a0).bind fun y3 => ((chunk_lanes.f k).bind fun y4 => ((chunk_place_get.f k y4.fst y4.snd a0).bind fun y5 => ((chunk_manys.f k).bind fun y6 => ((chunk_place_get.f k y6.fst y6.snd a0).bind fun y7 => ((chunk_bits.f k).bind fun y8 => ((chunk_place_get.f k y8.fst y8.snd a0).bind fun y9 => ((chunk_Right.f k (i64.wrap y1) (i64.wrap y3) (i64.wrap y5) (i64.wrap y7) y9).bind fun y10 => (if (!y10) = false then ((chunk_word.f k (i64.wrap y1) (i64.wrap y3) (i64.wrap y5) (i64.wrap y7) y9).bind fun y11 => (if (y11 != a0) = true then (some (0, 0, 0, 0, 0, false)) else (some (i64.wrap y1, i64.wrap y3, i64.wrap y5, i64.wrap y7, y9, true)))) else (some (0, 0, 0, 0, 0, false))))))))))))))
def chunk_Decode.r (k : Nat) (a0 : Int) : Option (Int × Int × Int × Int × Int × Bool) := (Option.rec (motive := fun _ => Option (Int × Int × Int × Int × Int × Bool)) none (fun y0 => (Option.rec (motive := fun _ => Option (Int × Int × Int × Int × Int × Bool)) none (fun y1 => (Option.rec (motive := fun _ => Option (Int × Int × Int × Int × Int × Bool)) none (fun y2 => (Option.rec (motive := fun _ => Option (Int × Int × Int × Int × Int × Bool)) none (fun y3 => (Option.rec (motive := fun _ => Option (Int × Int × Int × Int × Int × Bool)) none (fun y4 => (Option.rec (motive := fun _ => Option (Int × Int × Int × Int × Int × Bool)) none (fun y5 => (Option.rec (motive := fun _ => Option (Int × Int × Int × Int × Int × Bool)) none (fun y6 => (Option.rec (motive := fun _ => Option (Int × Int × Int × Int × Int × Bool)) none (fun y7 => (Option.rec (motive := fun _ => Option (Int × Int × Int × Int × Int × Bool)) none (fun y8 => (Option.rec (motive := fun _ => Option (Int × Int × Int × Int × Int × Bool)) none (fun y9 => (Option.rec (motive := fun _ => Option (Int × Int × Int × Int × Int × Bool)) none (fun y10 => (Decidable.rec (motive := fun _ => Option (Int × Int × Int × Int × Int × Bool)) (fun _ => (some (0, 0, 0, 0, 0, false))) (fun _ => (Option.rec (motive := fun _ => Option (Int × Int × Int × Int × Int × Bool)) none (fun y11 => (Decidable.rec (motive := fun _ => Option (Int × Int × Int × Int × Int × Bool)) (fun _ => (some (i64.wrap y1, i64.wrap y3, i64.wrap y5, i64.wrap y7, y9, true))) (fun _ => (some (0, 0, 0, 0, 0, false))) (inferInstance : Decidable ((y11 != a0) = true)))) (chunk_word.f k (i64.wrap y1) (i64.wrap y3) (i64.wrap y5) (i64.wrap y7) y9))) (inferInstance : Decidable ((!y10) = false)))) (chunk_Right.f k (i64.wrap y1) (i64.wrap y3) (i64.wrap y5) (i64.wrap y7) y9))) (chunk_place_get.f k y8.fst y8.snd a0))) (chunk_bits.f k))) (chunk_place_get.f k y6.fst y6.snd a0))) (chunk_manys.f k))) (chunk_place_get.f k y4.fst y4.snd a0))) (chunk_lanes.f k))) (chunk_place_get.f k y2.fst y2.snd a0))) (chunk_classes.f k))) (chunk_place_get.f k y0.fst y0.snd a0))) (chunk_kinds.f k))
def chunk_Decode.o : FnOk T Tryz.prog := mkO (tab_ok gl0) 111 Tryz.func111 [chunk_kinds.o gl0, chunk_classes.o gl0, chunk_lanes.o gl0, chunk_manys.o gl0, chunk_bits.o gl0, chunk_place_get.o gl0, chunk_Right.o, chunk_word.o gl0] [] [tc qU] [] (.tup [.agg [qI, qI, qI, qI, qU], .cell qB]) [] chunk_Decode.f [] (hf := fun k ats => (by kernel_rfl : chunk_Decode.f k (aI ats 0) = chunk_Decode.r k (aI ats 0)).trans (by kernel_rfl))
def tile_Chunks.c4 : Nat → List Int → Int → Int → List S114 → Option (Bool × List S114)
 | 0, _, _, _, _ => none
 | k + 1, a, b, c, d => (if decide (c < b) = true then (if 0 ≤ c then (if c < (a.length : Int) then ((chunk_Decode.f k (a.getD c.toNat 0)).bind fun y0 => (if (!y0.snd.snd.snd.snd.snd) = true then (some (false, [])) else (if d.length + [S114.mk y0.fst y0.snd.fst y0.snd.snd.fst y0.snd.snd.snd.fst y0.snd.snd.snd.snd.fst].length ≤ big then (tile_Chunks.c4 k (a) (b) (i64.wrap (c + 1)) (d ++ [S114.mk y0.fst y0.snd.fst y0.snd.snd.fst y0.snd.snd.snd.fst y0.snd.snd.snd.snd.fst])) else none))) else none) else none) else (some (true, d)))
def tile_Chunks.f (k : Nat) (a0 : List Int) : Option (Bool × List S114) := (tile_Chunks.c4 k (a0) ((a0.length : Int)) (0) ([]))
def tile_Chunks.o : FnOk T Tryz.prog := mkO (tab_ok gl0) 91 Tryz.func91 [chunk_Decode.o] [] [tc (qf 33)] [] (.tup [.cell (qo 0), .cell qB]) [(0, qr 114)] tile_Chunks.f [mkC (Bool × List S114) 4 28 [(4, tc (qo 0)), (9, tc (qf 33)), (10, tc qI), (11, tc qI)] [(0, qr 114)] 0 [0, 1, 2, 3] tile_Chunks.c4]
def field_held.f (k : Nat) (a0 : Int) : Option Int := (some (mx 0 (mn a0 64)))
def field_held.o : FnOk (Tg g) Tryz.prog := mkO (tab_ok g) 134 Tryz.func134 [] [] [tc qI] [] (tc qI) [] field_held.f []
end Go.Proofs.YtbbpcbjgekencaaGreatDoor.FT
end
section
set_option linter.unusedVariables false
set_option linter.unusedSimpArgs false
set_option linter.unusedVariables false
set_option linter.unusedSimpArgs false
set_option maxRecDepth 100000
namespace Go.Proofs.YtbbpcbjgekencaaGreatDoor.H
open Go Go.RowKit Go.Proofs.YtbbpcbjgekencaaGreatDoorW.PrintWords Go.Proofs.YtbbpcbjgekencaaGreatDoor Go.Proofs.YtbbpcbjgekencaaGreatDoor.Q
noncomputable def field_held.f (a0 : Int) : Option (Int) := FT.field_held.f 100 a0
theorem field_held.calls (a0 : Int) (r : Int) (w : World)  (h : field_held.f a0 = some r) :
  Calls Tryz.prog 134 #[.int .i64 a0] w fun e w' => e = .returned (.int .i64 r) ∧ Below w.heap.size w w' := by
 unfold field_held.f at h
 have hq := h
 refine (Ev.ok_calls (FT.field_held.o []).ok (k := 100) (ats := [.int a0]) hq (xs := [.t (.cell (.c (.int .i64 a0)))]) rfl rfl (vals := #[.int .i64 a0]) (.cons (.t (.cell (.c _))) .nil) (fun x hx => by cases hx)).mono ?_
 rintro e w' ⟨x, E', rfl, hL⟩
 rw [Ev.left_value hL rfl]
 exact ⟨rfl, Ev.left_below hL⟩
end Go.Proofs.YtbbpcbjgekencaaGreatDoor.H
end
section
set_option linter.unusedVariables false
set_option linter.unusedSimpArgs false
set_option linter.unusedVariables false
set_option linter.unusedSimpArgs false
namespace Go.Proofs.YtbbpcbjgekencaaGreatDoor.H
open Go Go.RowKit Go.Proofs.YtbbpcbjgekencaaGreatDoorW.PrintWords Go.Proofs.YtbbpcbjgekencaaGreatDoorW.PrintLast Go.Proofs.YtbbpcbjgekencaaGreatDoorW.PrintMore Go.Proofs.YtbbpcbjgekencaaGreatDoor.Q
attribute [local go_sem] max2_int min2_int max_two min_two max_three min_three max_four min_four
attribute [local go_sem] Oper.semAt_some
noncomputable def bitAt (w : Int) (k : Nat) : Bool := Go.bits .and .u64 (w / 2 ^ k) 1 == 1
noncomputable def ones (w : Int) (m : Nat) : List Nat := (List.range m).filter (bitAt w)
theorem ones_succ (w : Int) (m : Nat) : ones w (m + 1) = if bitAt w m = true then ones w m ++ [m] else ones w m := by
 unfold ones
 rw [List.range_succ, List.filter_append]
 cases h : bitAt w m <;> simp [h]
theorem ones_length (w : Int) (m : Nat) : (ones w m).length ≤ m := by
 unfold ones
 exact Nat.le_trans (List.length_filter_le _ _) (by simp)
theorem ones_prefix (w : Int) (a : Nat) : ∀ b, ones w a <+: ones w (a + b)
 | 0 => List.prefix_refl _
 | b + 1 => (ones_prefix w a b).trans (by
   rw [← Nat.add_assoc, ones_succ]
   split
   ·exact List.prefix_append _ _
   ·exact List.prefix_refl _)
set_option maxRecDepth 100000 in
set_option maxHeartbeats 4000000 in
theorem fe_yields (F : Fence) (n : Nat) (hF : F.fn 133) (h115 : F.fn 134) (hw : F = Fence.wide) (hro : F.round = none) (hn : 1 ≤ n) (l Bm Bw n₀ : Nat) (m bw : Int) (M : Nat) (hM : field_held.f m = some (M : Int)) (hM64 : M ≤ 64)
  (w0 : World) (hn0 : w0.heap.size = n₀) (J Jx : List Nat → World → Prop) (W : World) (hb0 : Below n₀ w0 W) (hJ : AbidesFrom W.heap.size J)
  (hY : ∀ pre x W1, J pre W1 → pre.length < 64 → YieldAt F (n - 1) Tryz.prog l #[.int .i64 ((x : Nat) : Int)] W1 fun e W' =>
   (e = .returned (.bool true) ∧ J (pre ++ [x]) W' ∧ KeepT n₀ 33 W1 W') ∨ (e = .returned (.bool false) ∧ Jx (pre ++ [x]) W'))
  (hBm : w0.cell? ⟨Bm, 0, none⟩ = some (.int .i64 m)) (hBw : w0.cell? ⟨Bw, 0, none⟩ = some (.int .u64 bw)) (h0 : J [] W) :
  CallsIn F n Tryz.prog 133 #[.func (.yield l) #[] #[], .pointer (some ⟨Bm, 0, none⟩), .pointer (some ⟨Bw, 0, none⟩)] W fun e W' => (∃ v, e = .returned v) ∧
   ((∃ ys, ys = ones bw M ∧ J ys W') ∨ (∃ pre, pre <+: ones bw M ∧ Jx pre W')) := by
 subst hw
 refine callsIn_of_wp Tryz.func133 rfl hF ?_ hro
 simp only [Tryz.ntmps133, List.size_toArray, List.length_cons, List.length_nil, Nat.reduceAdd, Nat.reduceSub, Array.replicate_succ, Array.replicate_zero, List.push_toArray, List.append_toArray, List.nil_append, List.cons_append]
 have hm0 : W.cell? ⟨Bm, 0, none⟩ = some (.int .i64 m) := pw_cell_below (hn0 ▸ hb0) hBm
 gi_wp2
 refine (callsIn_wide.2 (field_held.calls m (M : Int) _ hM)).mono ?_
 rintro e w' ⟨rfl, hbh⟩
 have hJ1 := hJ _ _ _ none h0 (below_grown hbh) (by simp)
 have hb1 : Below n₀ W w' := hbh.mono (by have := hb0.size; omega)
 gi_wp2
 gi_loopw [4, 7] (fun _ j wr => ∃ a : Nat, a ≤ M ∧ j = .int .i64 (a : Int) ∧ J (ones bw a) wr ∧ Below n₀ W wr)
  (fun _ j _ => M - (intOf j).toNat)
 case atStart => exact ⟨0, Nat.zero_le _, rfl, hJ1, hb1⟩
 case round =>
  obtain ⟨a, ha, rfl, hJs, hbr⟩ := hrel
  have hbw : w0.heap.size ≤ w0.heap.size := Nat.le_refl _
  have hcw : wr.cell? ⟨Bw, 0, none⟩ = some (.int .u64 bw) := pw_cell_below (hn0 ▸ (hb0.trans hbr)) hBw
  by_cases hlt : a < M
  ·by_cases hbit : bitAt bw a = true
   ·obtain ⟨fn, tmps, assign, body, hy, hR⟩ := hY _ a wr hJs (by have := ones_length bw a; omega)
    have hb' : (Go.bits .and .u64 (bw / 2 ^ a) 1 == 1) = true := hbit
    gi_wp2
    refine hR.mono ?_
    rintro e W3 (⟨rfl, hJ3, hk3⟩ | ⟨rfl, hJx3⟩)
    ·gi_wp2
     go_roundw
     case rel => exact ⟨a + 1, by omega, by go_num, by rw [ones_succ, if_pos hbit]; exact hJ3, hbr.trans hk3.1⟩
     case measure => simp [intOf]; omega
    ·gi_wp2
     refine bodyPost_ret (results_none rfl _ _ _) rfl ?_
     exact ⟨⟨_, rfl⟩, .inr ⟨_, by have h2 := ones_prefix bw (a + 1) (M - (a + 1)); rw [Nat.add_sub_cancel' (by omega), ones_succ, if_pos hbit] at h2; exact h2, hJx3⟩⟩
   ·have hb' : (Go.bits .and .u64 (bw / 2 ^ a) 1 == 1) = false := by simpa [bitAt] using hbit
    gi_wp2
    refine ⟨fun _ h => (by cases h), ?_⟩
    gi_wp2
    go_roundw
    case rel => exact ⟨a + 1, by omega, by go_num, by rw [ones_succ, if_neg hbit]; exact hJs, hbr⟩
    case measure => simp [intOf]; omega
  ·obtain rfl : a = M := by omega
   gi_wp2
   go_end0
   exact ⟨⟨_, rfl⟩, .inl ⟨_, rfl, hJs⟩⟩
set_option maxHeartbeats 1000000 in
theorem fe_in (F : Fence) (n : Nat) (hF : F.fn 113) (hro : F.round = none) (bw m : Int) (w : World) :
  CallsIn F n Tryz.prog 113 #[.int .u64 bw, .int .i64 m] w fun e w' => e = .returned (.func (.func 133) #[] #[.pointer (some ⟨w.heap.size + 1, 0, none⟩), .pointer (some ⟨w.heap.size, 0, none⟩)]) ∧ w' = (w.alloc (.cells #[.int .u64 bw] 33)).alloc (.cells #[.int .i64 m] 3) := by
 refine callsIn_of_wp Tryz.func113 rfl hF ?_ hro
 simp only [Tryz.ntmps113, List.size_toArray, List.length_cons, List.length_nil, Nat.reduceAdd, Nat.reduceSub, Array.replicate_succ, Array.replicate_zero, List.push_toArray, List.append_toArray, List.nil_append, List.cons_append]
 gi_wp2
 go_ret
 exact ⟨rfl, rfl⟩
theorem fe_stops (F : Fence) (n : Nat) (hF : F.fn 133) (h115 : F.fn 134) (hw : F = Fence.wide) (hro : F.round = none) (hn : 1 ≤ n) (Bm Bw : Nat) (m bw : Int) (M : Nat) (hM : field_held.f m = some (M : Int)) (hM64 : M ≤ 64)
  (w0 w : World) (hb0 : Below w0.heap.size w0 w) (hBm : w0.cell? ⟨Bm, 0, none⟩ = some (.int .i64 m)) (hBw : w0.cell? ⟨Bw, 0, none⟩ = some (.int .u64 bw)) :
  SeqStopsK F n Tryz.prog 133 #[.pointer (some ⟨Bm, 0, none⟩), .pointer (some ⟨Bw, 0, none⟩)] (fun x : Nat => #[Value.int .i64 (x : Int)]) (KeepT w0.heap.size 33) (fun ys => ys = ones bw M) (fun pre => pre <+: ones bw M) 64 w := by
 intro l J Jx W hW hJ _ hY h0
 exact fe_yields F n hF h115 hw hro hn l Bm Bw w0.heap.size m bw M hM hM64 w0 rfl J Jx W (hb0.trans (hW.mono hb0.size)) hJ hY hBm hBw h0
theorem fint_info : (Tryz.prog.info? 3).map (fun i => (i.zero, i.size, i.bytes)) = some (some (.int .i64 0), 1, 8) := by kernel_rfl
set_option maxRecDepth 100000 in
set_option maxHeartbeats 4000000 in
theorem fappend_in (F : Fence) (n : Nat) (h1 : F.fn 132) (h3 : F.fn 133) (h115 : F.fn 134) (hw : F = Fence.wide) (hro : F.round = none) (hn : 3 ≤ n) (Bm Bw : Nat) (m bw : Int) (M : Nat) (hM : field_held.f m = some (M : Int)) (hM64 : M ≤ 64) (w : World)
  (hBm : w.cell? ⟨Bm, 0, none⟩ = some (.int .i64 m)) (hBw : w.cell? ⟨Bw, 0, none⟩ = some (.int .u64 bw)) :
  CallsIn F n Tryz.prog 132 #[.slice none 0 0, .func (.func 133) #[] #[.pointer (some ⟨Bm, 0, none⟩), .pointer (some ⟨Bw, 0, none⟩)]] w fun e W' => ∃ v, e = .returned v ∧ W'.ownsRow w.heap.size 3 1 v (ones bw M).length ((ones bw M).map fun k => Value.int .i64 ((k : Nat) : Int)) ∧ Below w.heap.size w W' := by
 have hn1 : 1 ≤ n := by omega
 obtain ⟨i0, hi, hz0, hz1, hz2⟩ := info_parts fint_info
 refine callsIn_of_wp_marks Tryz.func132 rfl h1 ?_ hro
 simp only [Tryz.ntmps132, List.size_toArray, List.length_cons, List.length_nil, Nat.reduceAdd, Nat.reduceSub, Array.replicate_succ, Array.replicate_zero, List.push_toArray, List.append_toArray, List.nil_append, List.cons_append]
 gi_wp2
 have b1 := Boxed.new w 83 (.slice none 0 0)
 have hB0 : Below w.heap.size w (w.alloc (.cells #[.slice none 0 0] 83)) := (Below.refl _ w).alloc (Nat.le_refl _) _
 refine wpIn_rangeFunc_ownG hro hn1 (gf := 133) (lb := #[.pointer (some ⟨Bm, 0, none⟩), .pointer (some ⟨Bw, 0, none⟩)]) rfl h3 (enters_of Tryz.func133 (by kernel_rfl) rfl)
  (fe_stops F (n - 1) h3 h115 hw hro (by omega) Bm Bw m bw M hM hM64 w _ hB0 hBm hBw) (fun h k => h.trans k) (KeepT.put (by simp)) (Below.refl _ _) (fun _ => rfl)
  (fun pre W => (∃ v, Boxed W w.heap.size 83 v ∧ W.ownsRow w.heap.size 3 1 v pre.length (pre.map fun k => Value.int .i64 ((k : Nat) : Int)) ∧ True) ∧ Below w.heap.size w W)
  (fun _ _ _ => False)
  (OwnFrom.and (Own.from (holdsRow_own w.heap.size w.heap.size 83 3 1 (fun (pre : List Nat) => pre.length) (fun (pre : List Nat) => pre.map fun (k : Nat) => Value.int .i64 (k : Int)) (fun _ _ => True)) _) (ownFrom_below (Nat.le_refl _) (by simp)))
  (fun _ _ _ _ _ hs _ _ => hs)
  ⟨⟨_, b1, World.ownsRow_nil _ _ _ _, trivial⟩, hB0⟩
  (fun x => { tmps := #[.slice none 0 0, .func (.func 133) #[] #[.pointer (some ⟨Bm, 0, none⟩), .pointer (some ⟨Bw, 0, none⟩)], .pointer (some ⟨w.heap.size, 0, none⟩), undef, .slice none 0 0, .int .i64 (x : Int), .func (.func 133) #[] #[.pointer (some ⟨Bm, 0, none⟩), .pointer (some ⟨Bw, 0, none⟩)], .int .i64 (x : Int), undef, undef, undef, undef, undef], defers := [] }) ?assign ?body ?done ?stop
 case assign =>
  intro l x W K hK
  gi_wp2
  exact hK
 case body =>
  rintro l pre x W ⟨⟨v, hv, hrow, _⟩, hB⟩ hlt
  have hc := hv.cell
  gi_wp2_with (gi_at_builtin; refine wpListIn_append_own _ rfl _ _ 83 rfl w.heap.size 3 i0 (.int .i64 0) 1 8 Tryz.underlying83 hi hz0 hz1 hz2 rfl (by decide) _ _ _ rfl (hrow.alloc _) ⟨W.heap.size, 0, none⟩ 1 1 [.int .i64 (x : Int)] rfl rfl (cell_one_new _ _ _) (by simp [Value.oneCell']) (by simp only [maxLen]; omega) (by omega) (by have := hB.size; simp; omega) ?_; intro v' w1 hown' hgrow _; obtain ⟨g', cap', rfl⟩ := ownsRow_succ hown'; obtain ⟨hv1, hv2, hr2, hk2, hb2⟩ := hv.appended (by decide) hrow hB.size (by omega) hown' hgrow; have hkt := keepT_appended (t := 33) hv (by decide) hrow (by decide) hgrow hb2; have hc1 := hv1.cell; have hf1 := hv1.frozen)
  exact ⟨hk2.from _, hkt, ⟨⟨_, hv2, by simpa using hr2, trivial⟩, hB.trans hb2⟩⟩
 case done =>
  rintro D ys W hD rfl ⟨⟨v, hv, hrow, _⟩, hB⟩ hK
  have hc := hv.cell
  gi_wp2
  refine ⟨by simp, .inl ⟨_, _, rfl, run_takeDeferred hK, ?_⟩⟩
  exact ⟨_, results_tmp rfl _ _ _, v, rfl, ownsRow_putObj hrow _ hK rfl, hB.trans (belowK_b (w := w) (Nat.le_refl _) W D _ _ (by simp at hD; omega) hK rfl rfl)⟩
 case stop =>
  rintro D c pre W _ _ h _
  exact h.elim
set_option maxHeartbeats 1000000 in
theorem fcollect (Bm Bw : Nat) (m bw : Int) (M : Nat) (hM : field_held.f m = some (M : Int)) (hM64 : M ≤ 64) (w : World)
  (hBm : w.cell? ⟨Bm, 0, none⟩ = some (.int .i64 m)) (hBw : w.cell? ⟨Bw, 0, none⟩ = some (.int .u64 bw)) :
  Calls Tryz.prog 112 #[.func (.func 133) #[] #[.pointer (some ⟨Bm, 0, none⟩), .pointer (some ⟨Bw, 0, none⟩)]] w fun e W' => ∃ v, e = .returned v ∧ W'.ownsRow w.heap.size 3 1 v (ones bw M).length ((ones bw M).map fun k => Value.int .i64 ((k : Nat) : Int)) ∧ Below w.heap.size w W' := by
 go_enter Tryz.func112, Tryz.ntmps112
 go_wp2_with (go_at_call 132; refine ((callsIn_wide (n := 3)).1 (fappend_in Fence.wide 3 trivial trivial trivial rfl rfl (Nat.le_refl _) Bm Bw m bw M hM hM64 _ hBm hBw)).mono ?_; rintro e w' ⟨v, rfl, ho, hb⟩)
 go_ret
 exact ⟨v, rfl, ho, hb⟩
noncomputable def onesI (w m : Int) : List Int := (ones w (max 0 (min m 64)).toNat).map fun (k : Nat) => (k : Int)
set_option maxHeartbeats 1000000 in
theorem places_own (bw m : Int) (w : World) :
  Calls Tryz.prog 95 #[.int .u64 bw, .int .i64 m] w fun e w' => ∃ v, e = .returned v ∧ w'.ownsRow w.heap.size 3 1 v (onesI bw m).length (encs (Value.int .i64) (onesI bw m)) ∧ Below w.heap.size w w' := by
 obtain ⟨M, hMe⟩ : ∃ M : Nat, (max 0 (min m 64)).toNat = M := ⟨_, rfl⟩
 have hM : field_held.f m = some (M : Int) := by
  rw [← hMe]; unfold field_held.f FT.field_held.f Ev.mx Ev.mn; congr 1; repeat' split
  all_goals omega
 have hM64 : M ≤ 64 := by omega
 have HM := Aside0.mk hM
 have HM2 := Aside0.mk hM64
 have HE := Aside0.mk hMe
 clear hM hM64 hMe
 go_enter Tryz.func95, Tryz.ntmps95
 go_wp2_with (first
  | (go_at_call 113; refine ((callsIn_wide (n := 3)).1 (fe_in Fence.wide 3 trivial rfl bw m _)).mono ?_; rintro e w' ⟨rfl, rfl⟩)
  | (go_at_call 112; refine (fcollect (w.heap.size + 1) w.heap.size m bw M HM.out HM2.out _ (by simp) (by simp)).mono ?_; rintro e w' ⟨v, rfl, ho, hb⟩))
 go_ret
 refine ⟨v, rfl, ?_, ?_⟩
 ·have h1 : (onesI bw m).length = (ones bw M).length := by simp [onesI, HE.out]
  have h2 : encs (Value.int .i64) (onesI bw m) = (ones bw M).map fun k => Value.int .i64 ((k : Nat) : Int) := by simp [onesI, HE.out, encs]
  rw [h1, h2]
  exact own_less ho (by simp; omega)
 ·exact below_step (((Below.refl _ w).alloc (Nat.le_refl _) _).alloc (by simp) _) hb
end Go.Proofs.YtbbpcbjgekencaaGreatDoor.H
end
