import Derived.Test.YtbbpcbjgekencaaGreatDoorM8
section
set_option linter.unusedVariables false
set_option linter.unusedSimpArgs false
set_option linter.unusedVariables false
set_option linter.unusedSimpArgs false
namespace Go.Proofs.YtbbpcbjgekencaaGreatDoor.H
open Go Go.RowKit Go.Proofs.YtbbpcbjgekencaaGreatDoorW.PrintWords Go.Proofs.YtbbpcbjgekencaaGreatDoorW.PrintLast Go.Proofs.YtbbpcbjgekencaaGreatDoorW.PrintMore Go.Proofs.YtbbpcbjgekencaaGreatDoor.Q
attribute [local go_sem] max2_int min2_int max_two min_two max_three min_three max_four min_four
noncomputable def mark_place.f (a0 : Int) : Option (Int × Int) := if a0 = 0 then some (0, 2) else if a0 = 1 then some (2, 14) else if a0 = 2 then some (16, 48) else none
set_option maxRecDepth 100000 in
set_option maxHeartbeats 2000000 in
theorem mark_place.calls (a0 : Int) (r1 : Int) (r2 : Int) (w : World) (h : mark_place.f a0 = some (r1, r2)) :
  Calls Tryz.prog 122 #[.int .i64 a0] w fun e w' => e = .returned (.tuple #[.int .i64 r1, .int .i64 r2]) ∧ Below w.heap.size w w' := by
 have i0 : ∀ w, (Instr.index 173 (.agg #[.int .i64 0, .int .i64 2, .int .i64 2, .int .i64 14, .int .i64 16, .int .i64 48]) (.int .i64 0)).run Tryz.prog w = .ok (.agg #[.int .i64 0, .int .i64 2]) w := fun _ => by kernel_rfl
 have i1 : ∀ w, (Instr.index 173 (.agg #[.int .i64 0, .int .i64 2, .int .i64 2, .int .i64 14, .int .i64 16, .int .i64 48]) (.int .i64 1)).run Tryz.prog w = .ok (.agg #[.int .i64 2, .int .i64 14]) w := fun _ => by kernel_rfl
 have i2 : ∀ w, (Instr.index 173 (.agg #[.int .i64 0, .int .i64 2, .int .i64 2, .int .i64 14, .int .i64 16, .int .i64 48]) (.int .i64 2)).run Tryz.prog w = .ok (.agg #[.int .i64 16, .int .i64 48]) w := fun _ => by kernel_rfl
 unfold mark_place.f at h
 by_cases h0 : a0 = 0
 ·rw [if_pos h0] at h
  cases h
  subst h0
  go_enter Tryz.func122, Tryz.ntmps122
  go_wp2_with fail
  go_quiet (fail)
  go_wp2_with fail
  go_ret2
  exact ⟨rfl, pw_below_drewN ((Below.refl _ _).alloc (Nat.le_refl _) _) _⟩
 rw [if_neg h0] at h
 by_cases h1 : a0 = 1
 ·rw [if_pos h1] at h
  cases h
  subst h1
  go_enter Tryz.func122, Tryz.ntmps122
  go_wp2_with fail
  go_quiet (fail)
  go_wp2_with fail
  go_ret2
  exact ⟨rfl, pw_below_drewN ((Below.refl _ _).alloc (Nat.le_refl _) _) _⟩
 rw [if_neg h1] at h
 by_cases h2 : a0 = 2
 ·rw [if_pos h2] at h
  cases h
  subst h2
  go_enter Tryz.func122, Tryz.ntmps122
  go_wp2_with fail
  go_quiet (fail)
  go_wp2_with fail
  go_ret2
  exact ⟨rfl, pw_below_drewN ((Below.refl _ _).alloc (Nat.le_refl _) _) _⟩
 rw [if_neg h2] at h
 cases h
end Go.Proofs.YtbbpcbjgekencaaGreatDoor.H
end
section
set_option linter.unusedVariables false
set_option linter.unusedSimpArgs false
set_option linter.unusedVariables false
set_option linter.unusedSimpArgs false
set_option maxRecDepth 100000
noncomputable section
namespace Go.Proofs.YtbbpcbjgekencaaGreatDoor.FT
open Go Go.Proofs.YtbbpcbjgekencaaGreatDoor Go.Proofs.YtbbpcbjgekencaaGreatDoor.Ev Go.Proofs.YtbbpcbjgekencaaGreatDoor.Q
open Go.IntKind (i64 u64 u32)
variable (g : List (Nat × Nat × Value))
noncomputable def mark_place.f (k : Nat) (a0 : Int) : Option (Int × Int) := H.mark_place.f a0
noncomputable def mark_place.F : EvForm Γ := mkF [] [tc qI] [] (.tup [.cell qI, .cell qI]) [] mark_place.f
theorem mark_place.ok (g : List (Nat × Nat × Value)) : CallOk (Tg g) Tryz.prog 122 mark_place.F.fn := by
 refine hand_ok Tryz.func122 (by kernel_rfl) (by kernel_rfl) _ rfl (fun k ats r hf E A w vals hv hg => ?_) (tab_ok g)
 have hf : mark_place.f k (aI ats 0) = some r := hf
 unfold mark_place.f at hf
 generalize hx0 : (aI ats 0) = x0 at hf
 have hv : ConcAs (Tg g) E (SB (Tg g) w (Ev.Own (T := (Tg g)) E []) A E [] w) w [.t (.cell (.c (.int .i64 x0)))] vals := by subst hx0; have := hv; exact this
 obtain ⟨u0, _, rfl, h0, hv1⟩ := concAs_uncons hv
 obtain rfl := conc_c (concA_cell h0)
 obtain rfl := concAs_unnil hv1
 obtain ⟨r1, r2⟩ := r
 have hc := H.mark_place.calls x0 r1 r2 w  hf
 refine hc.mono fun e w' h => ?_
 obtain ⟨rfl, hb⟩ := h
 exact ⟨_, E, rfl, hb, concA_of_tup (concTs_cons (.cell (.c _)) (concTs_cons (.cell (.c _)) concTs_nil)), memOk_nil, fun q h => absurd h own_none⟩
noncomputable def mark_place.o (g : List (Nat × Nat × Value)) : FnOk (Tg g) Tryz.prog := ⟨122, mark_place.F, mark_place.ok g⟩
end Go.Proofs.YtbbpcbjgekencaaGreatDoor.FT
end
section
set_option linter.unusedVariables false
set_option linter.unusedSimpArgs false
set_option linter.unusedVariables false
set_option linter.unusedSimpArgs false
set_option maxRecDepth 100000
noncomputable section
namespace Go.Proofs.YtbbpcbjgekencaaGreatDoor.FT
open Go Go.Proofs.YtbbpcbjgekencaaGreatDoor Go.Proofs.YtbbpcbjgekencaaGreatDoor.Ev Go.Proofs.YtbbpcbjgekencaaGreatDoor.Q
open Go.IntKind (i64 u64 u32)
variable (g : List (Nat × Nat × Value))
def mark_get.f (k : Nat) (a0 a1 : Int) : Option Int := ((mark_place.f k a1).bind fun y0 => ((field_Get.f k a0 y0.fst y0.snd).bind fun y1 => (some (y1))))
def mark_get.o : FnOk (Tg g) Tryz.prog := mkO (tab_ok g) 108 Tryz.func108 [mark_place.o g, field_Get.o g] [] [tc qU, tc qI] [] (tc qU) [] mark_get.f []
def mark_End.f (k : Nat) (a0_0 a0_1 a0_2 : Int) : Option (Int × Int × Int) := (some (0, 0, a0_2))
def mark_End.o : FnOk (Tg g) Tryz.prog := mkO (tab_ok g) 123 Tryz.func123 [] [] [ta [qI, qI, qU]] [] (ta [qI, qI, qU]) [] mark_End.f []
def mark_Right.f (k : Nat) (a0_0 a0_1 a0_2 : Int) : Option Bool := (if decide (a0_2 > 281474976710655) = false then (if decide (a0_0 < 0) = false then (if decide (a0_0 > 2) = true then (some (false)) else (if (a0_0 == 0) = true then ((mark_End.f k a0_0 a0_1 a0_2).bind fun y0 => (some (a0_0 == y0.fst && (a0_1 == y0.snd.fst && a0_2 == y0.snd.snd)))) else (if decide (a0_1 ≥ 0) = true then (some (decide (a0_1 ≤ 16383))) else (some (false))))) else (some (false))) else (some (false)))
def mark_Right.o : FnOk (Tg g) Tryz.prog := mkO (tab_ok g) 109 Tryz.func109 [mark_End.o g] [] [ta [qI, qI, qU]] [] (tc qB) [] mark_Right.f []
def mark_Decode.f (k : Nat) (a0 : Int) : Option (Int × Int × Int × Bool) := ((mark_get.f k a0 0).bind fun y0 => ((mark_get.f k a0 1).bind fun y1 => ((mark_get.f k a0 2).bind fun y2 => ((mark_Right.f k (i64.wrap y0) (i64.wrap y1) y2).bind fun y3 => (if (!y3) = true then (some (0, 0, 0, false)) else (some (i64.wrap y0, i64.wrap y1, y2, true)))))))
def mark_Decode.o : FnOk (Tg g) Tryz.prog := mkO (tab_ok g) 89 Tryz.func89 [mark_get.o g, mark_Right.o g] [] [tc qU] [] (.tup [.agg [qI, qI, qU], .cell qB]) [] mark_Decode.f []
def geo_lane.f (k : Nat) (a0_0 a0_1 a1 : Int) : Option Bool := ((geo_Right.f k a0_0 a0_1).bind fun y0 => (if y0 = true then (if decide (a1 ≥ 0) = true then (some (decide (a1 < a0_1))) else (some (false))) else (some (false))))
def geo_lane.o : FnOk (Tg g) Tryz.prog := mkO (tab_ok g) 110 Tryz.func110 [geo_Right.o g] [] [ta [qI, qI], tc qI] [] (tc qB) [] geo_lane.f []
def geo_Mark.f (k : Nat) (a0_0 a0_1 a1 : Int) : Option Int := ((geo_lane.f k a0_0 a0_1 a1).bind fun y0 => (if (!y0) = true then (some (-1)) else (some (i64.wrap (10 + a1)))))
def geo_Mark.o : FnOk (Tg g) Tryz.prog := mkO (tab_ok g) 90 Tryz.func90 [geo_lane.o g] [] [ta [qI, qI], tc qI] [] (tc qI) [] geo_Mark.f []
def sound_pool_marks.c3 : Nat → Int → Int → List Int → Int → Int → Option Bool
 | 0, _, _, _, _, _ => none
 | k + 1, a, b, c, d, e => (if decide (b < a) = true then ((geo_Mark.f k d e b).bind fun y0 => (if 0 ≤ y0 then (if y0 < (c.length : Int) then ((mark_Decode.f k (c.getD y0.toNat 0)).bind fun y1 => (if (!y1.snd.snd.snd) = false then (if (y1.fst != 0) = true then (some (false)) else (sound_pool_marks.c3 k (a) (i64.wrap (b + 1)) (c) (d) (e))) else (some (false)))) else none) else none)) else (some (true)))
def sound_pool_marks.f (k : Nat) (a0_0 : List Int) (a0_1 a0_2 : Int) : Option Bool := (sound_pool_marks.c3 k (a0_2) (0) (a0_0) (a0_1) (a0_2))
def sound_pool_marks.o : FnOk (Tg g) Tryz.prog := mkO (tab_ok g) 63 Tryz.func63 [mark_Decode.o g, geo_Mark.o g] [] [ta [(qf 33), qI, qI]] [] (tc qB) [] sound_pool_marks.f [mkC Bool 3 32 [(1, tc (qb 0)), (8, tc qI), (9, tc qI)] [(0, .box 73 [qf 33, qI, qI])] 0 [0, 1, 2, 3, 4] sound_pool_marks.c3]
end Go.Proofs.YtbbpcbjgekencaaGreatDoor.FT
end
section
set_option linter.unusedVariables false
set_option linter.unusedSimpArgs false
set_option linter.unusedVariables false
set_option linter.unusedSimpArgs false
set_option maxRecDepth 100000
namespace Go.Proofs.YtbbpcbjgekencaaGreatDoor.H
open Go Go.RowKit Go.Proofs.YtbbpcbjgekencaaGreatDoorW.PrintWords Go.Proofs.YtbbpcbjgekencaaGreatDoor Go.Proofs.YtbbpcbjgekencaaGreatDoor.Q
noncomputable def sound_pool_marks.f (k : Nat) (l0_0 : List Int) (a0_1 : Int) (a0_2 : Int) : Option (Bool) := FT.sound_pool_marks.f k l0_0 a0_1 a0_2
theorem sound_pool_marks.calls (k : Nat) (A0_0 : Option Addr) (c0_0 : Nat) (l0_0 : List Int) (a0_1 : Int) (a0_2 : Int) (r : Bool) (w : World) (hr0_0 : Kd.C (Kd.int .u64) w A0_0 l0_0.length l0_0) (hc0_0 : l0_0.length ≤ c0_0) (h : sound_pool_marks.f k l0_0 a0_1 a0_2 = some r) :
  Calls Tryz.prog 63 #[.agg #[.slice A0_0 l0_0.length c0_0, .int .i64 a0_1, .int .i64 a0_2]] w fun e w' => e = .returned (.bool r) ∧ Below w.heap.size w w' := by
 unfold sound_pool_marks.f at h
 have hq := h
 refine (Ev.ok_calls (FT.sound_pool_marks.o []).ok (k := k) (ats := [.sl 33 l0_0, .int a0_1, .int a0_2]) hq (xs := [.t (.agg [.sl .far 33 l0_0, .c (.int .i64 a0_1), .c (.int .i64 a0_2)])]) rfl rfl (vals := #[.agg #[.slice A0_0 l0_0.length c0_0, .int .i64 a0_1, .int .i64 a0_2]]) (.cons (.t (.agg (Ev.concL_cons (Ev.conc_of_C (Ev.tab_ok []) (e := 33) (Kd.int .u64) rfl hr0_0 hc0_0 (of_decide_eq_true (by kernel_rfl)) (Ev.k1_33 fun q hq => Ev.any_far hq) fun q hq => Ev.any_far hq) (Ev.concL_cons (.c _) (Ev.concL_cons (.c _) Ev.concL_nil))))) .nil) (fun x hx => by cases hx)).mono ?_
 rintro e w' ⟨x, E', rfl, hL⟩
 rw [Ev.left_value hL rfl]
 exact ⟨rfl, Ev.left_below hL⟩
end Go.Proofs.YtbbpcbjgekencaaGreatDoor.H
end
section
set_option linter.unusedVariables false
set_option linter.unusedSimpArgs false
set_option linter.unusedVariables false
set_option linter.unusedSimpArgs false
namespace Go.Proofs.YtbbpcbjgekencaaGreatDoor.H
open Go Go.RowKit Go.Proofs.YtbbpcbjgekencaaGreatDoorW.PrintWords Go.Proofs.YtbbpcbjgekencaaGreatDoorW.PrintLast Go.Proofs.YtbbpcbjgekencaaGreatDoorW.PrintMore Go.Proofs.YtbbpcbjgekencaaGreatDoor.Q
attribute [local go_sem] max2_int min2_int max_two min_two max_three min_three max_four min_four
abbrev OpenR := Option (List Int × Int × Int × Bool)
noncomputable def failR : OpenR := some ([], 0, 0, false)
noncomputable def rest4 (l : List Int) (a b : Int) : OpenR := some (l, a, b, true)
noncomputable def rest3 (k : Nat) (l : List Int) (a b : Int) : OpenR := (sound_pool_root.f k l a b).bind fun c => if c = false then failR else rest4 l a b
noncomputable def rest2 (k : Nat) (l : List Int) (a b : Int) : OpenR := (sound_pool_objects.f k l a b).bind fun c => if c = false then failR else rest3 k l a b
noncomputable def rest1 (k : Nat) (l : List Int) (a b : Int) : OpenR := (sound_pool_tiles.f k l a b).bind fun c => if c = false then failR else rest2 k l a b
noncomputable def rest0 (k : Nat) (l : List Int) (a b : Int) : OpenR := (sound_pool_marks.f k l a b).bind fun c => if c = false then failR else rest1 k l a b
noncomputable def restF (j k : Nat) (l : List Int) (a b : Int) : OpenR := if j = 0 then rest0 k l a b else if j = 1 then rest1 k l a b else if j = 2 then rest2 k l a b else if j = 3 then rest3 k l a b else rest4 l a b
noncomputable def sound_open.f (k : Nat) (l : List Int) : OpenR := (super_Decode.f l).bind fun d => if d.2.2 ≠ 0 then failR else rest0 k l d.1 d.2.1
set_option maxRecDepth 100000 in
set_option maxHeartbeats 8000000 in
theorem sound_open.calls (k : Nat) (P0_ : Nat → Prop) (A0 : Option Addr) (c0 : Nat) (l0 : List Int) (r1 : List Int) (r2 : Int) (r3 : Int) (r4 : Bool) (w : World) (hs0 : Kd.V (Kd.int .u64) 33 w w.heap.size (fun k_ => P0_ k_) (.slice A0 l0.length c0) l0) (h : sound_open.f k l0 = some (r1, r2, r3, r4)) :
    CallsG 31 #[.slice A0 l0.length c0] w fun e w' => ∃ v0_ : Value, e = .returned (.tuple #[.agg #[v0_, .int .i64 r2, .int .i64 r3], .bool r4]) ∧ Kd.V (Kd.int .u64) 33 w' w.heap.size (fun k_ => (P0_ k_ ∨ w.heap.size ≤ k_)) v0_ r1 ∧ Below w.heap.size w w' := by
  intro hG
  have HG := Lib.hid hG
  obtain ⟨_, hc0, hr0⟩ := Kd.V_reads' hs0
  have HS := Lib.hid hs0
  have HC := Lib.hid hc0
  have HR := Lib.hid hr0
  unfold sound_open.f at h
  obtain ⟨⟨d1, d2, d3⟩, hd, h⟩ := Option.bind_eq_some_iff.1 h
  have HD := Lib.hid (fun W (hb : Below w.heap.size w W) => super_Decode.calls A0 c0 l0 d1 d2 d3 W (Kd.C_below hr0 hb) hc0 hd)
  clear hG hs0 hc0 hr0 hd
  have HH := Lib.hid h
  clear h
  go_enter Tryz.func31, Tryz.ntmps31
  obtain ⟨R, hRe⟩ : ∃ R, w.heap.size = R := ⟨_, rfl⟩
  have HRE := Lib.hid hRe
  by_cases hd3 : d3 = 0
  · subst hd3
    go_wp2_with (first
      | (go_at_call 62; refine (HD.out _ ?hbd).mono ?_; (case hbd => exact (Below.refl w.heap.size w).alloc (Nat.le_refl _) _); rintro e w1 ⟨rfl, hb1⟩; have HB1 := Lib.hid hb1; clear hb1))
    have h := HH.out
    rw [if_neg (by simp)] at h
    have hR0 := blk_below (blk_new w (.cells #[.slice none 0 0, .int .i64 0, .int .i64 0] 73)) HB1.out
    have hb0 := below_step ((Below.refl w.heap.size w).alloc (Nat.le_refl _) (.cells #[.slice none 0 0, .int .i64 0, .int .i64 0] 73)) HB1.out
    have hb2 := ((hb0.alloc hb0.size (.cells #[.int .i64 d1, .int .i64 d2] 51)).alloc (by have := hb0.size; simp; omega) (.cells #[.slice A0 l0.length c0, .int .i64 d1, .int .i64 d2] 73)).alloc (by have := hb0.size; simp; omega) (.cells #[.func (.func 63) #[.agg #[.slice A0 l0.length c0, .int .i64 d1, .int .i64 d2]] #[], .func (.func 64) #[.agg #[.slice A0 l0.length c0, .int .i64 d1, .int .i64 d2]] #[], .func (.func 65) #[.agg #[.slice A0 l0.length c0, .int .i64 d1, .int .i64 d2]] #[], .func (.func 66) #[.agg #[.slice A0 l0.length c0, .int .i64 d1, .int .i64 d2]] #[]] 121)
    have hR2 := blk_alloc (blk_alloc (blk_alloc hR0 (.cells #[.int .i64 d1, .int .i64 d2] 51)) (.cells #[.slice A0 l0.length c0, .int .i64 d1, .int .i64 d2] 73)) (.cells #[.func (.func 63) #[.agg #[.slice A0 l0.length c0, .int .i64 d1, .int .i64 d2]] #[], .func (.func 64) #[.agg #[.slice A0 l0.length c0, .int .i64 d1, .int .i64 d2]] #[], .func (.func 65) #[.agg #[.slice A0 l0.length c0, .int .i64 d1, .int .i64 d2]] #[], .func (.func 66) #[.agg #[.slice A0 l0.length c0, .int .i64 d1, .int .i64 d2]] #[]] 121)
    have hP2 := blk_alloc (blk_new (w1.alloc (.cells #[.int .i64 d1, .int .i64 d2] 51)) (.cells #[.slice A0 l0.length c0, .int .i64 d1, .int .i64 d2] 73)) (.cells #[.func (.func 63) #[.agg #[.slice A0 l0.length c0, .int .i64 d1, .int .i64 d2]] #[], .func (.func 64) #[.agg #[.slice A0 l0.length c0, .int .i64 d1, .int .i64 d2]] #[], .func (.func 65) #[.agg #[.slice A0 l0.length c0, .int .i64 d1, .int .i64 d2]] #[], .func (.func 66) #[.agg #[.slice A0 l0.length c0, .int .i64 d1, .int .i64 d2]] #[]] 121)
    have hF2 := blk_new ((w1.alloc (.cells #[.int .i64 d1, .int .i64 d2] 51)).alloc (.cells #[.slice A0 l0.length c0, .int .i64 d1, .int .i64 d2] 73)) (.cells #[.func (.func 63) #[.agg #[.slice A0 l0.length c0, .int .i64 d1, .int .i64 d2]] #[], .func (.func 64) #[.agg #[.slice A0 l0.length c0, .int .i64 d1, .int .i64 d2]] #[], .func (.func 65) #[.agg #[.slice A0 l0.length c0, .int .i64 d1, .int .i64 d2]] #[], .func (.func 66) #[.agg #[.slice A0 l0.length c0, .int .i64 d1, .int .i64 d2]] #[]] 121)
    simp only [World.size_alloc] at hP2 hF2
    rw [hRe] at hR2
    obtain ⟨G, hGe⟩ : ∃ G, w1.heap.size = G := ⟨_, rfl⟩
    rw [hGe] at hP2 hF2
    obtain ⟨w2, hw2⟩ : ∃ w2, ((w1.alloc (.cells #[.int .i64 d1, .int .i64 d2] 51)).alloc (.cells #[.slice A0 l0.length c0, .int .i64 d1, .int .i64 d2] 73)).alloc (.cells #[.func (.func 63) #[.agg #[.slice A0 l0.length c0, .int .i64 d1, .int .i64 d2]] #[], .func (.func 64) #[.agg #[.slice A0 l0.length c0, .int .i64 d1, .int .i64 d2]] #[], .func (.func 65) #[.agg #[.slice A0 l0.length c0, .int .i64 d1, .int .i64 d2]] #[], .func (.func 66) #[.agg #[.slice A0 l0.length c0, .int .i64 d1, .int .i64 d2]] #[]] 121) = w2 := ⟨_, rfl⟩
    rw [hw2] at hb2 hR2 hP2 hF2
    simp only [hGe, hRe, hw2]
    have hle : w.heap.size ≤ R := by omega
    have HLE := Lib.hid hle
    have HF0 : Hid (restF 0 k l0 d1 d2 = some (r1, r2, r3, r4)) := Lib.hid h
    clear hR0 hb0 hw2 hGe hRe h hle
    go_loopw [34] (fun v wr => ∃ j : Nat, j ≤ 4 ∧ v = .int .i64 (j : Int) ∧ wr.heap[R]? = some (.cells #[.slice none 0 0, .int .i64 0, .int .i64 0] 73 (0, 0)) ∧ wr.heap[G + 1]? = some (.cells #[.slice A0 l0.length c0, .int .i64 d1, .int .i64 d2] 73 (0, 0)) ∧ wr.heap[G + 1 + 1]? = some (.cells #[.func (.func 63) #[.agg #[.slice A0 l0.length c0, .int .i64 d1, .int .i64 d2]] #[], .func (.func 64) #[.agg #[.slice A0 l0.length c0, .int .i64 d1, .int .i64 d2]] #[], .func (.func 65) #[.agg #[.slice A0 l0.length c0, .int .i64 d1, .int .i64 d2]] #[], .func (.func 66) #[.agg #[.slice A0 l0.length c0, .int .i64 d1, .int .i64 d2]] #[]] 121 (0, 0)) ∧ Below w.heap.size w wr ∧ Hid (restF j k l0 d1 d2 = some (r1, r2, r3, r4))) (fun v _ => 4 - (intOf v).toNat)
    case atStart => exact ⟨0, by omega, rfl, hR2, hP2, hF2, hb2, HF0⟩
    case round =>
      obtain ⟨j, hj, rfl, hR3, hP3, hF3, hb3, HJ⟩ := hrel
      have hle := HLE.out
      clear hR2 hP2 hF2 hb2 hle
      rcases (show j = 0 ∨ j = 1 ∨ j = 2 ∨ j = 3 ∨ j = 4 by omega) with rfl | rfl | rfl | rfl | rfl
      · have hh := HJ.out
        obtain ⟨c, hcc, hh⟩ := Option.bind_eq_some_iff.1 (show (sound_pool_marks.f k l0 d1 d2).bind _ = some (r1, r2, r3, r4) from hh)
        have HK := Lib.hid (fun W (hb : Below w.heap.size w W) => sound_pool_marks.calls k A0 c0 l0 d1 d2 c W (Kd.C_below HR.out hb) HC.out hcc)
        have HR3 := Lib.hid hR3
        have HP3 := Lib.hid hP3
        have HF3 := Lib.hid hF3
        have HB3 := Lib.hid hb3
        have hfc := (blk_cell hF3 0).trans (show _ = some (Value.func (.func 63) #[.agg #[.slice A0 l0.length c0, .int .i64 d1, .int .i64 d2]] #[]) from rfl)
        clear hcc hR3 hP3 hF3 hb3
        cases c with
        | false =>
          rw [if_pos rfl] at hh
          cases hh
          go_wp2_with (first
            | (go_at_call 63; refine (HK.out _ ?hbd).mono ?_; (case hbd => exact HB3.out.alloc HB3.out.size _); rintro e w4 ⟨rfl, hb4⟩; have HB4 := Lib.hid hb4; have hR4 := blk_below (blk_alloc HR3.out _) hb4; have HR4 := Lib.hid hR4; clear hb4
               have hq0 := (blk_cell hR4 0).trans (show _ = some (Value.slice none 0 0) from rfl)
               have hz0 := blk_frozen hR4 0
               have hq1 := (blk_cell hR4 1).trans (show _ = some (Value.int .i64 0) from rfl)
               have hz1 := blk_frozen hR4 1
               have hq2 := (blk_cell hR4 2).trans (show _ = some (Value.int .i64 0) from rfl)
               have hz2 := blk_frozen hR4 2
               clear hR4))
          have hle := HLE.out
          have hb5 := below_step (HB3.out.alloc HB3.out.size _) HB4.out
          refine bodyPost_ret (results_ct rfl _ _ R 73 #[.slice none 0 0, .int .i64 0, .int .i64 0] (0, 0) _ rfl (blk_put (cs := #[.slice none 0 0, .int .i64 0, .int .i64 0]) (blk_put (cs := #[.slice none 0 0, .int .i64 0, .int .i64 0]) (blk_put (HR4.out) 0 (.slice none 0 0) rfl) 1 (.int .i64 0) rfl) 2 (.int .i64 0) rfl) Tryz.underlying73 rfl (by kernel_rfl)) rfl ⟨_, rfl, Kd.V_nil _ _ _ _ _, below_set (below_set (below_set (hb5) hle) hle) hle⟩
        | true =>
          rw [if_neg (by simp)] at hh
          have HJ2 : Hid (restF 1 k l0 d1 d2 = some (r1, r2, r3, r4)) := Lib.hid hh
          clear hh
          go_wp2_with (first
            | (go_at_call 63; refine (HK.out _ ?hbd).mono ?_; (case hbd => exact HB3.out.alloc HB3.out.size _); rintro e w4 ⟨rfl, hb4⟩; have HB4 := Lib.hid hb4; clear hb4))
          go_roundw
          case rel => exact ⟨1, by omega, by go_num, blk_below (blk_alloc HR3.out _) HB4.out, blk_below (blk_alloc HP3.out _) HB4.out, blk_below (blk_alloc HF3.out _) HB4.out, below_step (HB3.out.alloc HB3.out.size _) HB4.out, HJ2⟩
          case measure => simp [intOf]
      · have hh := HJ.out
        obtain ⟨c, hcc, hh⟩ := Option.bind_eq_some_iff.1 (show (sound_pool_tiles.f k l0 d1 d2).bind _ = some (r1, r2, r3, r4) from hh)
        have HK := Lib.hid (fun W (hb : Below w.heap.size w W) => sound_pool_tiles.calls k A0 c0 l0 d1 d2 c W (Kd.C_below HR.out hb) HC.out hcc (HG.out.below hb))
        have HR3 := Lib.hid hR3
        have HP3 := Lib.hid hP3
        have HF3 := Lib.hid hF3
        have HB3 := Lib.hid hb3
        have hfc := (blk_cell hF3 1).trans (show _ = some (Value.func (.func 64) #[.agg #[.slice A0 l0.length c0, .int .i64 d1, .int .i64 d2]] #[]) from rfl)
        clear hcc hR3 hP3 hF3 hb3
        cases c with
        | false =>
          rw [if_pos rfl] at hh
          cases hh
          go_wp2_with (first
            | (go_at_call 64; refine (HK.out _ ?hbd).mono ?_; (case hbd => exact HB3.out.alloc HB3.out.size _); rintro e w4 ⟨rfl, hb4⟩; have HB4 := Lib.hid hb4; have hR4 := blk_below (blk_alloc HR3.out _) hb4; have HR4 := Lib.hid hR4; clear hb4
               have hq0 := (blk_cell hR4 0).trans (show _ = some (Value.slice none 0 0) from rfl)
               have hz0 := blk_frozen hR4 0
               have hq1 := (blk_cell hR4 1).trans (show _ = some (Value.int .i64 0) from rfl)
               have hz1 := blk_frozen hR4 1
               have hq2 := (blk_cell hR4 2).trans (show _ = some (Value.int .i64 0) from rfl)
               have hz2 := blk_frozen hR4 2
               clear hR4))
          have hle := HLE.out
          have hb5 := below_step (HB3.out.alloc HB3.out.size _) HB4.out
          refine bodyPost_ret (results_ct rfl _ _ R 73 #[.slice none 0 0, .int .i64 0, .int .i64 0] (0, 0) _ rfl (blk_put (cs := #[.slice none 0 0, .int .i64 0, .int .i64 0]) (blk_put (cs := #[.slice none 0 0, .int .i64 0, .int .i64 0]) (blk_put (HR4.out) 0 (.slice none 0 0) rfl) 1 (.int .i64 0) rfl) 2 (.int .i64 0) rfl) Tryz.underlying73 rfl (by kernel_rfl)) rfl ⟨_, rfl, Kd.V_nil _ _ _ _ _, below_set (below_set (below_set (hb5) hle) hle) hle⟩
        | true =>
          rw [if_neg (by simp)] at hh
          have HJ2 : Hid (restF 2 k l0 d1 d2 = some (r1, r2, r3, r4)) := Lib.hid hh
          clear hh
          go_wp2_with (first
            | (go_at_call 64; refine (HK.out _ ?hbd).mono ?_; (case hbd => exact HB3.out.alloc HB3.out.size _); rintro e w4 ⟨rfl, hb4⟩; have HB4 := Lib.hid hb4; clear hb4))
          go_roundw
          case rel => exact ⟨2, by omega, by go_num, blk_below (blk_alloc HR3.out _) HB4.out, blk_below (blk_alloc HP3.out _) HB4.out, blk_below (blk_alloc HF3.out _) HB4.out, below_step (HB3.out.alloc HB3.out.size _) HB4.out, HJ2⟩
          case measure => simp [intOf]
      · have hh := HJ.out
        obtain ⟨c, hcc, hh⟩ := Option.bind_eq_some_iff.1 (show (sound_pool_objects.f k l0 d1 d2).bind _ = some (r1, r2, r3, r4) from hh)
        have HK := Lib.hid (fun W (hb : Below w.heap.size w W) => sound_pool_objects.calls k A0 c0 l0 d1 d2 c W (Kd.C_below HR.out hb) HC.out hcc (HG.out.below hb))
        have HR3 := Lib.hid hR3
        have HP3 := Lib.hid hP3
        have HF3 := Lib.hid hF3
        have HB3 := Lib.hid hb3
        have hfc := (blk_cell hF3 2).trans (show _ = some (Value.func (.func 65) #[.agg #[.slice A0 l0.length c0, .int .i64 d1, .int .i64 d2]] #[]) from rfl)
        clear hcc hR3 hP3 hF3 hb3
        cases c with
        | false =>
          rw [if_pos rfl] at hh
          cases hh
          go_wp2_with (first
            | (go_at_call 65; refine (HK.out _ ?hbd).mono ?_; (case hbd => exact HB3.out.alloc HB3.out.size _); rintro e w4 ⟨rfl, hb4⟩; have HB4 := Lib.hid hb4; have hR4 := blk_below (blk_alloc HR3.out _) hb4; have HR4 := Lib.hid hR4; clear hb4
               have hq0 := (blk_cell hR4 0).trans (show _ = some (Value.slice none 0 0) from rfl)
               have hz0 := blk_frozen hR4 0
               have hq1 := (blk_cell hR4 1).trans (show _ = some (Value.int .i64 0) from rfl)
               have hz1 := blk_frozen hR4 1
               have hq2 := (blk_cell hR4 2).trans (show _ = some (Value.int .i64 0) from rfl)
               have hz2 := blk_frozen hR4 2
               clear hR4))
          have hle := HLE.out
          have hb5 := below_step (HB3.out.alloc HB3.out.size _) HB4.out
          refine bodyPost_ret (results_ct rfl _ _ R 73 #[.slice none 0 0, .int .i64 0, .int .i64 0] (0, 0) _ rfl (blk_put (cs := #[.slice none 0 0, .int .i64 0, .int .i64 0]) (blk_put (cs := #[.slice none 0 0, .int .i64 0, .int .i64 0]) (blk_put (HR4.out) 0 (.slice none 0 0) rfl) 1 (.int .i64 0) rfl) 2 (.int .i64 0) rfl) Tryz.underlying73 rfl (by kernel_rfl)) rfl ⟨_, rfl, Kd.V_nil _ _ _ _ _, below_set (below_set (below_set (hb5) hle) hle) hle⟩
        | true =>
          rw [if_neg (by simp)] at hh
          have HJ2 : Hid (restF 3 k l0 d1 d2 = some (r1, r2, r3, r4)) := Lib.hid hh
          clear hh
          go_wp2_with (first
            | (go_at_call 65; refine (HK.out _ ?hbd).mono ?_; (case hbd => exact HB3.out.alloc HB3.out.size _); rintro e w4 ⟨rfl, hb4⟩; have HB4 := Lib.hid hb4; clear hb4))
          go_roundw
          case rel => exact ⟨3, by omega, by go_num, blk_below (blk_alloc HR3.out _) HB4.out, blk_below (blk_alloc HP3.out _) HB4.out, blk_below (blk_alloc HF3.out _) HB4.out, below_step (HB3.out.alloc HB3.out.size _) HB4.out, HJ2⟩
          case measure => simp [intOf]
      · have hh := HJ.out
        obtain ⟨c, hcc, hh⟩ := Option.bind_eq_some_iff.1 (show (sound_pool_root.f k l0 d1 d2).bind _ = some (r1, r2, r3, r4) from hh)
        have HK := Lib.hid (fun W (hb : Below w.heap.size w W) => sound_pool_root.calls k A0 c0 l0 d1 d2 c W (Kd.C_below HR.out hb) HC.out hcc (HG.out.below hb))
        have HR3 := Lib.hid hR3
        have HP3 := Lib.hid hP3
        have HF3 := Lib.hid hF3
        have HB3 := Lib.hid hb3
        have hfc := (blk_cell hF3 3).trans (show _ = some (Value.func (.func 66) #[.agg #[.slice A0 l0.length c0, .int .i64 d1, .int .i64 d2]] #[]) from rfl)
        clear hcc hR3 hP3 hF3 hb3
        cases c with
        | false =>
          rw [if_pos rfl] at hh
          cases hh
          go_wp2_with (first
            | (go_at_call 66; refine (HK.out _ ?hbd).mono ?_; (case hbd => exact HB3.out.alloc HB3.out.size _); rintro e w4 ⟨rfl, hb4⟩; have HB4 := Lib.hid hb4; have hR4 := blk_below (blk_alloc HR3.out _) hb4; have HR4 := Lib.hid hR4; clear hb4
               have hq0 := (blk_cell hR4 0).trans (show _ = some (Value.slice none 0 0) from rfl)
               have hz0 := blk_frozen hR4 0
               have hq1 := (blk_cell hR4 1).trans (show _ = some (Value.int .i64 0) from rfl)
               have hz1 := blk_frozen hR4 1
               have hq2 := (blk_cell hR4 2).trans (show _ = some (Value.int .i64 0) from rfl)
               have hz2 := blk_frozen hR4 2
               clear hR4))
          have hle := HLE.out
          have hb5 := below_step (HB3.out.alloc HB3.out.size _) HB4.out
          refine bodyPost_ret (results_ct rfl _ _ R 73 #[.slice none 0 0, .int .i64 0, .int .i64 0] (0, 0) _ rfl (blk_put (cs := #[.slice none 0 0, .int .i64 0, .int .i64 0]) (blk_put (cs := #[.slice none 0 0, .int .i64 0, .int .i64 0]) (blk_put (HR4.out) 0 (.slice none 0 0) rfl) 1 (.int .i64 0) rfl) 2 (.int .i64 0) rfl) Tryz.underlying73 rfl (by kernel_rfl)) rfl ⟨_, rfl, Kd.V_nil _ _ _ _ _, below_set (below_set (below_set (hb5) hle) hle) hle⟩
        | true =>
          rw [if_neg (by simp)] at hh
          have HJ2 : Hid (restF 4 k l0 d1 d2 = some (r1, r2, r3, r4)) := Lib.hid hh
          clear hh
          go_wp2_with (first
            | (go_at_call 66; refine (HK.out _ ?hbd).mono ?_; (case hbd => exact HB3.out.alloc HB3.out.size _); rintro e w4 ⟨rfl, hb4⟩; have HB4 := Lib.hid hb4; clear hb4))
          go_roundw
          case rel => exact ⟨4, by omega, by go_num, blk_below (blk_alloc HR3.out _) HB4.out, blk_below (blk_alloc HP3.out _) HB4.out, blk_below (blk_alloc HF3.out _) HB4.out, below_step (HB3.out.alloc HB3.out.size _) HB4.out, HJ2⟩
          case measure => simp [intOf]
      · have hh : rest4 l0 d1 d2 = some (r1, r2, r3, r4) := HJ.out
        unfold rest4 at hh
        simp only [Option.some.injEq, Prod.mk.injEq] at hh
        obtain ⟨rfl, rfl, rfl, rfl⟩ := hh
        have HR3 := Lib.hid hR3
        have HB3 := Lib.hid hb3
        have hq0 := (blk_cell hR3 0).trans (show _ = some (Value.slice none 0 0) from rfl)
        have hz0 := blk_frozen hR3 0
        have hq1 := (blk_cell hR3 1).trans (show _ = some (Value.int .i64 0) from rfl)
        have hz1 := blk_frozen hR3 1
        have hq2 := (blk_cell hR3 2).trans (show _ = some (Value.int .i64 0) from rfl)
        have hz2 := blk_frozen hR3 2
        have hp0 := (blk_cell hP3 0).trans (show _ = some (Value.slice A0 l0.length c0) from rfl)
        have hp1 := (blk_cell hP3 1).trans (show _ = some (Value.int .i64 d1) from rfl)
        have hp2 := (blk_cell hP3 2).trans (show _ = some (Value.int .i64 d2) from rfl)
        clear hR3 hP3 hF3 hb3
        go_wp2_with fail
        have hle := HLE.out
        have hbz := below_set (j := 2) (v := .int .i64 d2) (below_set (j := 1) (v := .int .i64 d1) (below_set (j := 0) (v := .slice A0 l0.length c0) HB3.out hle) hle) hle
        refine bodyPost_ret (results_ct rfl _ _ R 73 #[.slice A0 l0.length c0, .int .i64 d1, .int .i64 d2] (0, 0) _ rfl (blk_put (cs := #[.slice A0 l0.length c0, .int .i64 d1, .int .i64 0]) (blk_put (cs := #[.slice A0 l0.length c0, .int .i64 0, .int .i64 0]) (blk_put (HR3.out) 0 (.slice A0 l0.length c0) rfl) 1 (.int .i64 d1) rfl) 2 (.int .i64 d2) rfl) Tryz.underlying73 rfl (by kernel_rfl)) rfl ⟨_, rfl, ?_, hbz⟩
        exact Kd.V_mono (Kd.V_below HS.out hbz) (fun k_ hk => .inl hk)
  · have h := HH.out
    rw [if_pos hd3] at h
    cases h
    have hne : (d3 != 0) = true := by simpa using hd3
    have HG0 := Lib.hid hd3
    clear hd3
    go_wp2_with (first
      | (go_at_call 62; refine (HD.out _ ?hbd).mono ?_; (case hbd => exact (Below.refl w.heap.size w).alloc (Nat.le_refl _) _); rintro e w1 ⟨rfl, hb1⟩; have HB1 := Lib.hid hb1; have hR4 := blk_alloc (blk_below (blk_new w (.cells #[.slice none 0 0, .int .i64 0, .int .i64 0] 73)) hb1) (.cells #[.int .i64 d1, .int .i64 d2] 51); rw [hRe] at hR4; have HR4 := Lib.hid hR4; clear hb1
         have hq0 := (blk_cell hR4 0).trans (show _ = some (Value.slice none 0 0) from rfl)
         have hz0 := blk_frozen hR4 0
         have hq1 := (blk_cell hR4 1).trans (show _ = some (Value.int .i64 0) from rfl)
         have hz1 := blk_frozen hR4 1
         have hq2 := (blk_cell hR4 2).trans (show _ = some (Value.int .i64 0) from rfl)
         have hz2 := blk_frozen hR4 2
         clear hR4))
    have hle : w.heap.size ≤ R := by have := HRE.out; omega
    have hb0 := below_step ((Below.refl w.heap.size w).alloc (Nat.le_refl _) (.cells #[.slice none 0 0, .int .i64 0, .int .i64 0] 73)) HB1.out
    have hb5 := hb0.alloc hb0.size (.cells #[.int .i64 d1, .int .i64 d2] 51)
    have hR5 := HR4.out
    (try simp only [hRe])
    have hbz := below_set (j := 2) (v := .int .i64 0) (below_set (j := 1) (v := .int .i64 0) (below_set (j := 0) (v := .slice none 0 0) hb5 hle) hle) hle
    rw [hRe] at hbz
    refine bodyPost_ret (results_ct rfl _ _ R 73 #[.slice none 0 0, .int .i64 0, .int .i64 0] (0, 0) _ rfl (blk_put (cs := #[.slice none 0 0, .int .i64 0, .int .i64 0]) (blk_put (cs := #[.slice none 0 0, .int .i64 0, .int .i64 0]) (blk_put (hR5) 0 (.slice none 0 0) rfl) 1 (.int .i64 0) rfl) 2 (.int .i64 0) rfl) Tryz.underlying73 rfl (by kernel_rfl)) rfl ⟨_, rfl, Kd.V_nil _ _ _ _ _, hbz⟩
end Go.Proofs.YtbbpcbjgekencaaGreatDoor.H
end
section
set_option linter.unusedVariables false
set_option linter.unusedSimpArgs false
set_option linter.unusedVariables false
set_option linter.unusedSimpArgs false
set_option maxRecDepth 100000
noncomputable section
namespace Go.Proofs.YtbbpcbjgekencaaGreatDoor.FT
open Go Go.Proofs.YtbbpcbjgekencaaGreatDoor Go.Proofs.YtbbpcbjgekencaaGreatDoor.Ev Go.Proofs.YtbbpcbjgekencaaGreatDoor.Q
open Go.IntKind (i64 u64 u32)
variable (g : List (Nat × Nat × Value))
noncomputable def sound_open.f (k : Nat) (a0 : List Int) : Option (List Int × Int × Int × Bool) := if a0.length ≤ 9223372036854775807 then H.sound_open.f k a0 else none
noncomputable def sound_open.F : EvForm Γ := mkF [] [tc (qf 33)] [] (.tup [.agg [qf 33, qI, qI], .cell qB]) [] sound_open.f
theorem sound_open.ok : CallOk T Tryz.prog 31 sound_open.F.fn := by
 refine hand_ok Tryz.func31 (by kernel_rfl) (by kernel_rfl) _ rfl (fun k ats r hf E A w vals hv hg => ?_) (tab_ok gl0)
 have hf : sound_open.f k (aL (Γ := Γ) 33 ats 0) = some r := hf
 unfold sound_open.f at hf
 generalize hx0 : (aL (Γ := Γ) 33 ats 0) = x0 at hf
 split at hf
 case isFalse => cases hf
 rename_i hlen
 have hlen0 := hlen
 have hv : ConcAs T E (SB T w (Ev.Own (T := T) E []) A E [] w) w [.t (.cell (.sl .far 33 x0))] vals := by subst hx0; have := hv; exact this
 obtain ⟨u0, _, rfl, h0, hv1⟩ := concAs_uncons hv
 obtain ⟨A0, c0, rfl, hc0, hC0, hB0⟩ := (fl33 gl0).C_of (tab_ok gl0) (concA_cell h0) hlen0
 obtain rfl := concAs_unnil hv1
 obtain ⟨r1, r2, r3, r4⟩ := r
 have hc := H.sound_open.calls k (fun k_ => Ev.SB _ w (Ev.Own (T := T) E []) A E [] w .far k_) _ _ x0 r1 r2 r3 r4 w ((fl33 gl0).V_in (tab_ok gl0) (concA_cell h0) hlen0 (fun q hq => hq)) hf
 have hc := hc (H.gl_of hg)
 refine hc.mono fun e w' h => ?_
 obtain ⟨v, rfl, hV, hb⟩ := h
 have hs := (fl33 gl0).conc_V (E := E) (B := SB T w (Ev.Own (T := T) E []) A E [] w') (tab_ok gl0) hV (fun q hq h => (⟨hq, own_none (T := T), h.elim (fun h => h.2.2) (fun h => Or.inl (Or.inl h))⟩ : SB T w (Ev.Own (T := T) E []) A E [] w' .far q))
 exact ⟨_, E, rfl, hb, concA_of_tup (concTs_cons (.agg (concL_cons hs (concL_cons (.c _) (concL_cons (.c _) concL_nil)))) (concTs_cons (.cell (.c _)) concTs_nil)), memOk_nil, fun q h => absurd h own_none⟩
noncomputable def sound_open.o : FnOk T Tryz.prog := ⟨31, sound_open.F, sound_open.ok⟩
end Go.Proofs.YtbbpcbjgekencaaGreatDoor.FT
end
