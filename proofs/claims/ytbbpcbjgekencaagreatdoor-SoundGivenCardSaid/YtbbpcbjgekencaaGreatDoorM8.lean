import Derived.Test.YtbbpcbjgekencaaGreatDoorM7
import Derived.ChangeKeysEq
import Derived.Laws.CopyOwn
import Derived.Laws.Cover3
section
set_option linter.unusedVariables false
set_option linter.unusedSimpArgs false
set_option linter.unusedVariables false
set_option linter.unusedSimpArgs false
set_option maxRecDepth 100000
noncomputable section
namespace Go.Proofs.YtbbpcbjgekencaaGreatDoor.FT
open Go Go.Proofs.YtbbpcbjgekencaaGreatDoor Go.Proofs.YtbbpcbjgekencaaGreatDoor.Ev Go.Proofs.YtbbpcbjgekencaaGreatDoor.Q
open Go.IntKind (i64 u64 u32)
variable (g : List (Nat × Nat × Value))
noncomputable def seal_More.f (k : Nat) (a0 : Int) (a1 : List Int) : Option (Int) := if a1.length ≤ 9223372036854775807 then H.seal_More.f a0 a1 else none
noncomputable def seal_More.F : EvForm Γ := mkF [] [tc qW, tc (qf 33)] [] (tc qW) [] seal_More.f
theorem seal_More.ok (g : List (Nat × Nat × Value)) : CallOk (Tg g) Tryz.prog 135 seal_More.F.fn := by
 refine hand_ok Tryz.func135 (by kernel_rfl) (by kernel_rfl) _ rfl (fun k ats r hf E A w vals hv hg => ?_) (tab_ok g)
 have hf : seal_More.f k (aI ats 0) (aL (Γ := Γ) 33 ats 1) = some r := hf
 unfold seal_More.f at hf
 generalize hx0 : (aI ats 0) = x0 at hf
 generalize hx1 : (aL (Γ := Γ) 33 ats 1) = x1 at hf
 split at hf
 case isFalse => cases hf
 rename_i hlen
 have hlen0 := hlen
 have hv : ConcAs (Tg g) E (SB (Tg g) w (Ev.Own (T := (Tg g)) E []) A E [] w) w [.t (.cell (.c (.int .u32 x0))), .t (.cell (.sl .far 33 x1))] vals := by subst hx0; subst hx1; have := hv; exact this
 obtain ⟨u0, _, rfl, h0, hv1⟩ := concAs_uncons hv
 obtain rfl := conc_c (concA_cell h0)
 obtain ⟨u1, _, rfl, h1, hv2⟩ := concAs_uncons hv1
 obtain ⟨A1, c1, rfl, hc1, hC1, hB1⟩ := (fl33 g).C_of (tab_ok g) (concA_cell h1) hlen0
 obtain rfl := concAs_unnil hv2
 have hc := H.seal_More.calls x0 _ _ x1 r w hC1 hc1 hf
 refine hc.mono fun e w' h => ?_
 obtain ⟨rfl, hb⟩ := h
 exact ⟨_, E, rfl, hb, ofValue_conc _ _ rfl, memOk_nil, fun q h => absurd h own_none⟩
noncomputable def seal_More.o (g : List (Nat × Nat × Value)) : FnOk (Tg g) Tryz.prog := ⟨135, seal_More.F, seal_More.ok g⟩
end Go.Proofs.YtbbpcbjgekencaaGreatDoor.FT
end
section
set_option linter.unusedVariables false
set_option linter.unusedSimpArgs false
set_option linter.unusedVariables false
set_option linter.unusedSimpArgs false
set_option maxRecDepth 100000
noncomputable section
namespace Go.Proofs.YtbbpcbjgekencaaGreatDoor.FT
open Go Go.Proofs.YtbbpcbjgekencaaGreatDoor Go.Proofs.YtbbpcbjgekencaaGreatDoor.Ev Go.Proofs.YtbbpcbjgekencaaGreatDoor.Q
open Go.IntKind (i64 u64 u32)
variable (g : List (Nat × Nat × Value))
def seal_Of.f (k : Nat) (a0 : List Int) : Option Int := ((seal_More.f k 0 a0).bind fun y0 => (some (y0)))
def seal_Of.o : FnOk (Tg g) Tryz.prog := mkO (tab_ok g) 121 Tryz.func121 [seal_More.o g] [] [tc (qf 33)] [] (tc qW) [] seal_Of.f []
end Go.Proofs.YtbbpcbjgekencaaGreatDoor.FT
end
section
set_option linter.unusedVariables false
set_option linter.unusedSimpArgs false
set_option linter.unusedVariables false
set_option linter.unusedSimpArgs false
set_option maxRecDepth 100000
namespace Go.Proofs.YtbbpcbjgekencaaGreatDoor.H
open Go Go.RowKit Go.Proofs.YtbbpcbjgekencaaGreatDoorW.PrintWords Go.Proofs.YtbbpcbjgekencaaGreatDoor Go.Proofs.YtbbpcbjgekencaaGreatDoor.Q
noncomputable def seal_Of.f (l0 : List Int) : Option (Int) := FT.seal_Of.f 100 l0
theorem seal_Of.calls (A0 : Option Addr) (c0 : Nat) (l0 : List Int) (r : Int) (w : World) (hr0 : Kd.C (Kd.int .u64) w A0 l0.length l0) (hc0 : l0.length ≤ c0) (h : seal_Of.f l0 = some r) :
  Calls Tryz.prog 121 #[.slice A0 l0.length c0] w fun e w' => e = .returned (.int .u32 r) ∧ Below w.heap.size w w' := by
 unfold seal_Of.f at h
 have hq := h
 refine (Ev.ok_calls (FT.seal_Of.o []).ok (k := 100) (ats := [.sl 33 l0]) hq (xs := [.t (.cell (.sl .far 33 l0))]) rfl rfl (vals := #[.slice A0 l0.length c0]) (.cons (.t (.cell (Ev.conc_of_C (Ev.tab_ok []) (e := 33) (Kd.int .u64) rfl hr0 hc0 (of_decide_eq_true (by kernel_rfl)) (Ev.k1_33 fun q hq => Ev.any_far hq) fun q hq => Ev.any_far hq))) .nil) (fun x hx => by cases hx)).mono ?_
 rintro e w' ⟨x, E', rfl, hL⟩
 rw [Ev.left_value hL rfl]
 exact ⟨rfl, Ev.left_below hL⟩
end Go.Proofs.YtbbpcbjgekencaaGreatDoor.H
end
section
set_option linter.unusedVariables false
set_option linter.unusedSimpArgs false
set_option linter.unusedVariables false
set_option linter.unusedSimpArgs false
set_option maxRecDepth 100000
namespace Go.Proofs.YtbbpcbjgekencaaGreatDoor.H
open Go Go.RowKit Go.Proofs.YtbbpcbjgekencaaGreatDoorW.PrintWords Go.Proofs.YtbbpcbjgekencaaGreatDoor Go.Proofs.YtbbpcbjgekencaaGreatDoor.Q
noncomputable def geo_Chunks.f (a0_0 : Int) (a0_1 : Int) : Option (Int) := FT.geo_Chunks.f 100 a0_0 a0_1
theorem geo_Chunks.calls (a0_0 : Int) (a0_1 : Int) (r : Int) (w : World)  (h : geo_Chunks.f a0_0 a0_1 = some r) :
  Calls Tryz.prog 85 #[.agg #[.int .i64 a0_0, .int .i64 a0_1]] w fun e w' => e = .returned (.int .i64 r) ∧ Below w.heap.size w w' := by
 unfold geo_Chunks.f at h
 have hq := h
 refine (Ev.ok_calls (FT.geo_Chunks.o []).ok (k := 100) (ats := [.int a0_0, .int a0_1]) hq (xs := [.t (.agg [.c (.int .i64 a0_0), .c (.int .i64 a0_1)])]) rfl rfl (vals := #[.agg #[.int .i64 a0_0, .int .i64 a0_1]]) (.cons (.t (.agg (Ev.concL_cons (.c _) (Ev.concL_cons (.c _) Ev.concL_nil)))) .nil) (fun x hx => by cases hx)).mono ?_
 rintro e w' ⟨x, E', rfl, hL⟩
 rw [Ev.left_value hL rfl]
 exact ⟨rfl, Ev.left_below hL⟩
end Go.Proofs.YtbbpcbjgekencaaGreatDoor.H
end
section
set_option linter.unusedVariables false
set_option linter.unusedSimpArgs false
set_option linter.unusedVariables false
set_option linter.unusedSimpArgs false
set_option maxRecDepth 100000
namespace Go.Proofs.YtbbpcbjgekencaaGreatDoor.H
open Go Go.RowKit Go.Proofs.YtbbpcbjgekencaaGreatDoorW.PrintWords Go.Proofs.YtbbpcbjgekencaaGreatDoor Go.Proofs.YtbbpcbjgekencaaGreatDoor.Q
noncomputable def geo_Right.f (a0_0 : Int) (a0_1 : Int) : Option (Bool) := FT.geo_Right.f 100 a0_0 a0_1
theorem geo_Right.calls (a0_0 : Int) (a0_1 : Int) (r : Bool) (w : World)  (h : geo_Right.f a0_0 a0_1 = some r) :
  Calls Tryz.prog 87 #[.agg #[.int .i64 a0_0, .int .i64 a0_1]] w fun e w' => e = .returned (.bool r) ∧ Below w.heap.size w w' := by
 unfold geo_Right.f at h
 have hq := h
 refine (Ev.ok_calls (FT.geo_Right.o []).ok (k := 100) (ats := [.int a0_0, .int a0_1]) hq (xs := [.t (.agg [.c (.int .i64 a0_0), .c (.int .i64 a0_1)])]) rfl rfl (vals := #[.agg #[.int .i64 a0_0, .int .i64 a0_1]]) (.cons (.t (.agg (Ev.concL_cons (.c _) (Ev.concL_cons (.c _) Ev.concL_nil)))) .nil) (fun x hx => by cases hx)).mono ?_
 rintro e w' ⟨x, E', rfl, hL⟩
 rw [Ev.left_value hL rfl]
 exact ⟨rfl, Ev.left_below hL⟩
end Go.Proofs.YtbbpcbjgekencaaGreatDoor.H
end
section
set_option linter.unusedVariables false
set_option linter.unusedSimpArgs false
set_option linter.unusedVariables false
set_option linter.unusedSimpArgs false
namespace Go.Proofs.YtbbpcbjgekencaaGreatDoor.H
open Go Go.RowKit Go.Proofs.YtbbpcbjgekencaaGreatDoorW.PrintWords Go.Proofs.YtbbpcbjgekencaaGreatDoorW.PrintLast Go.Proofs.YtbbpcbjgekencaaGreatDoorW.PrintMore Go.Proofs.YtbbpcbjgekencaaGreatDoor.Q
attribute [local go_sem] max2_int min2_int max_two min_two max_three min_three max_four min_four
theorem u64_info : (Tryz.prog.info? 33).map (fun i => (i.zero, i.size, i.bytes)) = some (some (.int .u64 0), 1, 8) := by kernel_rfl
theorem u64_info_ex : ∃ i, Tryz.prog.info? 33 = some i ∧ i.size = 1 := by
 have h := u64_info
 cases hi : Tryz.prog.info? 33 with
 | none => rw [hi] at h; cases h
 | some i =>
  rw [hi, Option.map_some] at h
  injection h with h
  injection h with _ h
  injection h with h _
  exact ⟨i, rfl, h⟩
theorem mk78 (w : World) : (Instr.makeSlice 25 (.int .i64 7) (.int .i64 8)).run Tryz.prog w = .ok (.slice (some ⟨w.heap.size, 0, none⟩) 7 8) (w.alloc (.cells #[.int .u64 0, .int .u64 0, .int .u64 0, .int .u64 0, .int .u64 0, .int .u64 0, .int .u64 0, .int .u64 0] 33)) := by kernel_rfl
theorem u64_sz : (Tryz.prog.info? 33).map (·.size) = some 1 := by kernel_rfl
theorem encs_one {k : IntKind} (l : List Int) : ∀ v ∈ encs (Value.int k) l, v.oneCell' = true := by
 intro v hv
 unfold encs at hv
 obtain ⟨x, _, rfl⟩ := List.mem_map.1 hv
 rfl
theorem src7 {w w1 : World} {ad : Addr} {n : Nat} {l : List Int} (hr : Kd.C (Kd.int .u64) w (some ad) n l) (hb : Below w.heap.size w w1) : ∀ j v, (encs (Value.int .u64) l)[j]? = some v → w1.cell? (ad.add j) = some v := by
 intro j v hv
 have h1 := Kd.C_below hr hb
 have hl := h1.1
 unfold encs at hv
 rw [List.getElem?_map, Option.map_eq_some_iff] at hv
 obtain ⟨x, hx, rfl⟩ := hv
 have hj : j < l.length := by
  rcases Nat.lt_or_ge j l.length with h | h
  ·exact h
  ·rw [List.getElem?_eq_none h] at hx; cases hx
 obtain ⟨ad', e, hc⟩ := Kd.at_int h1 (j : Int) (by omega) (by omega)
 injection e with e
 subst e
 rw [Int.toNat_natCast] at hc
 rw [hc]
 simp [rd, hx]
noncomputable def wfU (l : List Int) : Prop := ∀ x ∈ l, 0 ≤ x ∧ x ≤ 18446744073709551615
noncomputable def sealL (l : List Int) : Int := ((crcL 0 (l.map Int.toNat) : Nat) : Int)
theorem of_f (l : List Int) (h : wfU l) (hl : l.length ≤ 9223372036854775807) : seal_Of.f l = some (sealL l) := by
 unfold seal_Of.f FT.seal_Of.f FT.seal_More.f seal_More.f
 rw [if_pos hl, if_pos ⟨by omega, by omega, h⟩]
 rfl
theorem of7 (n : Nat) (A0 : Option Addr) (c0 : Nat) (l : List Int) (hl : l.length = n) (w : World) (hr : Kd.C (Kd.int .u64) w A0 n l) (hc0 : n ≤ c0) (hwf : wfU l) :
  Calls Tryz.prog 121 #[.slice A0 n c0] w fun e w' => e = .returned (.int .u32 (sealL l)) ∧ Below w.heap.size w w' := by
 subst hl
 exact seal_Of.calls A0 c0 l (sealL l) w hr hc0 (of_f l hwf hr.2.1)
theorem splice8 (l : List Int) (hl : l.length = 7) : splice [Value.int .u64 0, .int .u64 0, .int .u64 0, .int .u64 0, .int .u64 0, .int .u64 0, .int .u64 0, .int .u64 0] 0 (encs (Value.int .u64) l) = encs (Value.int .u64) l ++ [Value.int .u64 0] := by
 unfold splice
 rw [encs_length, hl]
 rfl
theorem own7 (B : Nat) (l : List Int) (hl : l.length = 7) (W : World) (g : Nat) (hB : B ≤ g) (h : W.heap[g]? = some (.cells (splice [Value.int .u64 0, .int .u64 0, .int .u64 0, .int .u64 0, .int .u64 0, .int .u64 0, .int .u64 0, .int .u64 0] 0 (encs (Value.int .u64) l)).toArray 33 (0, 0))) :
  W.ownsRow B 33 1 (.slice (some ⟨g, 0, none⟩) 7 8) 7 (encs (Value.int .u64) l) := by
 rw [splice8 l hl] at h
 refine ⟨by rw [encs_length, hl], .inr ⟨g, 8, _, rfl, hB, h, by decide, by decide, ?_, ?_⟩⟩
 ·simp [encs_length, hl]
 ·rw [List.take_append_of_le_length (by simp [encs_length, hl])]
  exact List.take_of_length_le (by simp [encs_length, hl])
theorem own8 (B : Nat) (xs : List Value) (W : World) (g : Nat) (h : W.ownsRow B 33 1 (.slice (some ⟨g, 0, none⟩) 8 8) 8 xs) : W.heap[g]? = some (.cells xs.toArray 33 (0, 0)) := by
 obtain ⟨h1, ⟨e, _⟩ | ⟨g', cap, cur, e, _, hg, _, _, hs, ht⟩⟩ := h
 ·cases e
 ·injection e with e1 e2 e3
  injection e1 with e1
  injection e1 with e1
  subst e1 e3
  rw [hg]
  have : cur = xs.toArray := by
   rw [← ht, List.take_of_length_le (by rw [Array.length_toList]; omega)]
  rw [this]
theorem sealL_u64 (l : List Int) : 0 ≤ sealL l ∧ sealL l < 4294967296 := by have := crcL_lt 0 (l.map Int.toNat); unfold sealL; omega
set_option maxRecDepth 100000 in
set_option maxHeartbeats 4000000 in
theorem seal7 (A0 : Option Addr) (c0 : Nat) (l : List Int) (hl : l.length = 7) (w : World) (hr : Kd.C (Kd.int .u64) w A0 7 l) (hc0 : 7 ≤ c0) (hwf : wfU l) :
    Calls Tryz.prog 107 #[.slice A0 7 c0] w fun e w' => ∃ B, e = .returned (.slice (some ⟨B, 0, none⟩) 8 8) ∧ Hid (w'.heap[B]? = some (.cells (encs (Value.int .u64) (l ++ [sealL l])).toArray 33 (0, 0))) ∧ w.heap.size ≤ B ∧ Below w.heap.size w w' := by
  obtain ⟨ad, rfl, _⟩ := hr.2.2 (by omega)
  have HR := Lib.hid hr
  have HL := Lib.hid hl
  have HO := Lib.hid (fun (W : World) (hw : Kd.C (Kd.int .u64) W (some ad) 7 l) => of7 7 (some ad) c0 l hl W hw hc0 hwf)
  have hS := sealL_u64 l
  have HC := Lib.hid hc0
  clear hr hl hwf hc0
  have hmk := mk78
  obtain ⟨i, hi0, hsz0⟩ := u64_info_ex
  have hi := hi0
  have hsz := hsz0
  clear hi0 hsz0
  go_enter Tryz.func107, Tryz.ntmps107
  go_wp2_with (first
    | (with_reducible refine wpList_copy_splice rfl (.tmp 10) (.tmp 11) 25 25 rfl 33 Tryz.underlying25 u64_sz _ _ _ _ _ _ rfl rfl w.heap.size 0 [.int .u64 0, .int .u64 0, .int .u64 0, .int .u64 0, .int .u64 0, .int .u64 0, .int .u64 0, .int .u64 0] 33 ?hg (encs (Value.int .u64) l) ?hn ?hpos ?hfit ?h1 w.heap.size w ?hb (Nat.le_refl _) ?_
       (case hg => exact blk_new w _)
       (case hn => rw [encs_length, HL.out]; rfl)
       (case hpos => intro _; exact ⟨rfl, ad, rfl, src7 HR.out ((Below.refl _ _).alloc (Nat.le_refl _) _)⟩)
       (case hfit => rw [encs_length, HL.out]; decide)
       (case h1 => exact encs_one _)
       (case hb => exact (Below.refl _ _).alloc (Nat.le_refl _) _)
       intro w2 hw2 hb2
       rw [encs_length, HL.out]
       have HB2 := Lib.hid hb2
       clear hb2)
    | (at_builtin
       refine wpList_append_fits _ rfl (.tmp 13) (.tmp 17) 25 rfl w.heap.size 33 i 1 Tryz.underlying25 hi hsz w.heap.size 7 8 (encs (Value.int .u64) l) rfl (own7 _ l HL.out _ _ (Nat.le_refl _) ?hown) ⟨w3.heap.size, 0, none⟩ 1 1 [.int .u64 (sealL l)] rfl rfl ?hc ?h1c (by decide) ?_
       (case hown => exact blk_alloc (blk_below hw2.out HB3.out) _)
       (case hc => exact cell_one_new _ _ _)
       (case h1c => intro u hu; rw [List.mem_singleton] at hu; subst hu; rfl)
       intro w5 ho5 hg5
       have HO5 := Lib.hid ho5
       have HG5 := Lib.hid hg5
       clear ho5 hg5)
    | (go_at_call 121; (with_reducible refine (HO.out _ ?s1).mono ?_); (case s1 => exact Kd.C_below HR.out HB2.out); rintro e w3 ⟨rfl, hb3⟩; have HB3 := Lib.hid hb3; clear hb3))
  go_ret
  refine ⟨w.heap.size, rfl, Lib.hid ?_, Nat.le_refl _, ?_⟩
  · rw [encs_append]
    exact own8 _ _ _ _ HO5.out
  · have h3 := below_step HB2.out HB3.out
    exact (h3.alloc h3.size _).grown HG5.out (by have := h3.size; simp; omega) (fun k hk => by injection hk with hk; omega)
noncomputable def l7 (a b n : Int) : List Int := [6076272092419149644, 1, a, b, n, 0, 0]
noncomputable def headL (a b n : Int) : List Int := l7 a b n ++ [sealL (l7 a b n)]
theorem C7 (W : World) (g : Nat) (x0 x1 x2 x3 x4 x5 x6 : Int) (h : W.heap[g]? = some (.cells #[.int .u64 x0, .int .u64 x1, .int .u64 x2, .int .u64 x3, .int .u64 x4, .int .u64 x5, .int .u64 x6] 33 (0, 0))) :
  Kd.C (Kd.int .u64) W (some ⟨g, 0, none⟩) 7 [x0, x1, x2, x3, x4, x5, x6] := by
 refine Kd.C_of_reads (enc := Value.int .u64) (d := (0 : Int)) (h1 := fun _ => rfl) ⟨rfl, by omega, fun _ => ⟨_, rfl, fun j hj => ?_⟩⟩
 have hadd : (⟨g, 0, none⟩ : Addr).add j = ⟨g, j, none⟩ := by unfold Addr.add; split <;> simp_all
 rw [hadd, blk_cell h j]
 match j, hj with
 | 0, _ => rfl
 | 1, _ => rfl
 | 2, _ => rfl
 | 3, _ => rfl
 | 4, _ => rfl
 | 5, _ => rfl
 | 6, _ => rfl
 | j + 7, hj => omega
theorem ke_keep {w w1 w2 : World} {c0 c1 : Addr} {v0 v1 : Value} (hb : Below w1.heap.size w1 w2)
  (h : w1.cell? c0 = some v0 ∧ w1.cell? c1 = some v1 ∧ Below w.heap.size w w1) : w2.cell? c0 = some v0 ∧ w2.cell? c1 = some v1 ∧ Below w.heap.size w w2 :=
 ⟨pw_cell_below hb h.1, pw_cell_below hb h.2.1, below_step h.2.2 hb⟩
theorem wu63 (a : Int) (h : 0 ≤ a ∧ a ≤ 9223372036854775807) : IntKind.u64.wrap a = a := by
 unfold IntKind.wrap
 simp only [IntKind.bits, IntKind.signed, Bool.false_and, Bool.false_eq_true, if_false]
 omega
theorem head_len (a b n : Int) : (headL a b n).length = 8 := rfl
theorem head_sz (l : List Int) (h : l.length = 8) : (Tryz.prog.info? 141).map (·.size) = some (encs (Value.int .u64) l).toArray.size := by
 rw [List.size_toArray, encs_length, h]
 kernel_rfl
theorem encs_all (l : List Int) : (encs (Value.int .u64) l).toArray.all (·.oneCell') = true := by
 rw [Array.all_eq_true_iff_forall_mem]
 intro x hx
 exact encs_one l x (by simpa using hx)
theorem arr8_at : Tryz.prog.underlying 141 = some (.array 8 33) := by kernel_rfl
set_option maxRecDepth 100000 in
set_option maxHeartbeats 4000000 in
theorem of_calls (a b n : Int) (hn : geo_Chunks.f a b = some n) (ha : 0 ≤ a ∧ a ≤ 9223372036854775807) (hb : 0 ≤ b ∧ b ≤ 9223372036854775807) (hn0 : 0 ≤ n ∧ n ≤ 9223372036854775807) (w : World) :
  Calls Tryz.prog 88 #[.agg #[.int .i64 a, .int .i64 b]] w fun e w' => e = .returned (.agg (encs (Value.int .u64) (headL a b n)).toArray) ∧ Below w.heap.size w w' := by
 have HN := Lib.hid (fun W => geo_Chunks.calls a b n W hn)
 clear hn
 have hwf : wfU (l7 a b n) := by
  intro x hx
  simp only [l7, List.mem_cons, List.not_mem_nil, or_false] at hx
  omega
 have HW := Lib.hid hwf
 clear hwf
 go_enter Tryz.func88, Tryz.ntmps88
 go_wp2_with fail
 have hbk := blk_alloc (blk_new w (.cells #[.int .i64 a, .int .i64 b] 51)) (.cells #[.int .u64 0, .int .u64 0, .int .u64 0, .int .u64 0, .int .u64 0, .int .u64 0, .int .u64 0, .int .u64 0] 141)
 have hbr := blk_new (w.alloc (.cells #[.int .i64 a, .int .i64 b] 51)) (.cells #[.int .u64 0, .int .u64 0, .int .u64 0, .int .u64 0, .int .u64 0, .int .u64 0, .int .u64 0, .int .u64 0] 141)
 have hbw : Below w.heap.size w ((w.alloc (.cells #[.int .i64 a, .int .i64 b] 51)).alloc (.cells #[.int .u64 0, .int .u64 0, .int .u64 0, .int .u64 0, .int .u64 0, .int .u64 0, .int .u64 0, .int .u64 0] 141)) := ((Below.refl _ w).alloc (Nat.le_refl _) _).alloc (by simp) _
 rw [World.size_alloc] at hbr
 obtain ⟨W, hW⟩ : ∃ W, (w.alloc (.cells #[.int .i64 a, .int .i64 b] 51)).alloc (.cells #[.int .u64 0, .int .u64 0, .int .u64 0, .int .u64 0, .int .u64 0, .int .u64 0, .int .u64 0, .int .u64 0] 141) = W := ⟨_, rfl⟩
 rw [hW] at hbk hbr hbw ⊢
 clear hW
 obtain ⟨b0, hb0⟩ : ∃ b0, w.heap.size = b0 := ⟨_, rfl⟩
 rw [hb0] at hbk hbr
 simp only [hb0]
 have HB0 := Lib.hid hb0
 have HBW := Lib.hid hbw
 have HBR := Lib.hid hbr
 clear hb0 hbw hbr
 have hS0 : W.cell? ⟨b0, 0, none⟩ = some (.int .i64 a) ∧ W.cell? ⟨b0, 1, none⟩ = some (.int .i64 b) ∧ Below W.heap.size W W := ⟨(blk_cell hbk 0).trans rfl, (blk_cell hbk 1).trans rfl, Below.refl _ _⟩
 clear hbk
 go_region_held3 (fun w' => w'.cell? ⟨b0, 0, none⟩ = some (.int .i64 a) ∧ w'.cell? ⟨b0, 1, none⟩ = some (.int .i64 b) ∧ Below W.heap.size W w')
  (first | assumption | exact ke_keep (below_drew1 (Below.refl _ _)) hS0 | exact ke_keep (pw_below_drewN (Below.refl _ _) _) (by assumption) | exact ke_keep (by assumption) (by assumption) | exact ke_keep ((Below.refl _ _).alloc (Nat.le_refl _) _) (by assumption))
  (first | (go_at_call 85; (with_reducible refine (HN.out _).mono ?_); rintro e w4 ⟨rfl, hb4⟩))
 have hH : (w4.alloc (.cells #[.int .u64 6076272092419149644, .int .u64 1, .int .u64 (IntKind.u64.wrap a), .int .u64 (IntKind.u64.wrap b), .int .u64 (IntKind.u64.wrap n), .int .u64 0, .int .u64 0] 33)).cell? ⟨b0, 0, none⟩ = some (.int .i64 a) ∧ (w4.alloc (.cells #[.int .u64 6076272092419149644, .int .u64 1, .int .u64 (IntKind.u64.wrap a), .int .u64 (IntKind.u64.wrap b), .int .u64 (IntKind.u64.wrap n), .int .u64 0, .int .u64 0] 33)).cell? ⟨b0, 1, none⟩ = some (.int .i64 b) ∧ Below W.heap.size W (w4.alloc (.cells #[.int .u64 6076272092419149644, .int .u64 1, .int .u64 (IntKind.u64.wrap a), .int .u64 (IntKind.u64.wrap b), .int .u64 (IntKind.u64.wrap n), .int .u64 0, .int .u64 0] 33)) := by assumption
 have hb6 := hH.2.2
 rw [wu63 a ha, wu63 b hb, wu63 n hn0] at hb6
 rw [wu63 a ha, wu63 b hb, wu63 n hn0]
 have hC7 := C7 _ _ _ _ _ _ _ _ _ (blk_new w4 (.cells #[.int .u64 6076272092419149644, .int .u64 1, .int .u64 a, .int .u64 b, .int .u64 n, .int .u64 0, .int .u64 0] 33))
 have hsl := seal7 (some ⟨w4.heap.size, 0, none⟩) 7 (l7 a b n) rfl _ hC7 (Nat.le_refl _) HW.out
 obtain ⟨g4, hg4⟩ : ∃ g4, w4.heap.size = g4 := ⟨_, rfl⟩
 obtain ⟨w6, hw6⟩ : ∃ w6, w4.alloc (.cells #[.int .u64 6076272092419149644, .int .u64 1, .int .u64 a, .int .u64 b, .int .u64 n, .int .u64 0, .int .u64 0] 33) = w6 := ⟨_, rfl⟩
 simp only [hg4, hw6] at hsl hb6 ⊢
 have HSL := Lib.hid hsl
 have HB6 := Lib.hid hb6
 clear hsl hb6 hC7 hg4 hw6
 have har : ∀ (W : World) (A : Option Addr) (c : Nat), (Instr.arrayAt 141 (.slice A 8 c)).run Tryz.prog W = .ok (.pointer A) W := fun W A c => run_arrayAt W 141 33 8 A 8 c arr8_at (Nat.le_refl _)
 go_wp2_with (first
  | (go_at_call 107; (with_reducible refine HSL.out.mono ?_); rintro e w7 ⟨B, rfl, hB7, hBs, hb7⟩; have HB7 := Lib.hid hb7; have HBS := Lib.hid hBs; clear hb7 hBs)
  | (refine wpList_load_row rfl 141 (.tmp 16) rfl B rfl 33 _ (0, 0) _ hB7.out arr8_at rfl (head_sz _ (head_len a b n)) ?_)
  | (refine wpList_store_row rfl 141 (.tmp 2) (.tmp 17) rfl (b0 + 1) (encs (Value.int .u64) (headL a b n)).toArray rfl rfl 141 _ (blk_below (blk_below HBR.out HB6.out) HB7.out) (head_sz _ (head_len a b n)) rfl (encs_all _) ?_))
 refine bodyPost_ret (results_cell_row rfl _ _ (b0 + 1) 141 (encs (Value.int .u64) (headL a b n)).toArray (0, 0) _ rfl (setRow_heap _ _ _ _ _ _ (blk_below (blk_below HBR.out HB6.out) HB7.out)) arr8_at rfl (head_sz _ (head_len a b n))) rfl ⟨rfl, ?_⟩
 have e0 := HB0.out
 exact below_setRow (below_step (below_step HBW.out HB6.out) HB7.out) (by omega) _
theorem und_u64 : Tryz.prog.underlying 33 = some (.int .u64) := by kernel_rfl
theorem plain_u64 : Tryz.prog.plainKey 33 = true := by kernel_rfl
theorem cells_u64 : Tryz.prog.cellsOf 33 = 1 := by kernel_rfl
set_option maxRecDepth 100000 in
theorem eq_items (d : Nat) (xs ys : List Int) (W : World) : ∀ is : List Nat, (∀ i ∈ is, i < xs.length ∧ i < ys.length) → (Op.eqItems (d + 1) 33 1 (encs (Value.int .u64) xs).toArray (encs (Value.int .u64) ys).toArray is).run Tryz.prog W = .ok (decide (∀ i ∈ is, xs[i]? = ys[i]?)) W := by
 intro is
 induction is with
 | nil => intro _; simp [Op.eqItems]
 | cons i is ih =>
  intro h
  obtain ⟨hx, hy⟩ := h i (List.mem_cons_self)
  have p1 : (part 33 (encs (Value.int .u64) xs).toArray (i * 1)).run Tryz.prog W = .ok (.int .u64 xs[i]) W := run_part_plain W plain_u64 (by simp [encs, hx])
  have p2 : (part 33 (encs (Value.int .u64) ys).toArray (i * 1)).run Tryz.prog W = .ok (.int .u64 ys[i]) W := run_part_plain W plain_u64 (by simp [encs, hy])
  have p3 := run_equalIn_int (P := Tryz.prog) W d 33 .u64 .u64 xs[i] ys[i] und_u64
  simp only [Op.eqItems, Sem.run_bind, p1, p2, p3, Result.andThen_ok]
  by_cases e : xs[i] = ys[i]
  ·have e' : (xs[i] == ys[i]) = true := by simpa using e
   rw [e']
   simp only [Bool.not_true, Bool.false_eq_true, if_false]
   rw [ih (fun j hj => h j (List.mem_cons_of_mem _ hj))]
   congr 1
   rw [decide_eq_decide]
   constructor
   ·intro k j hj
    rcases List.mem_cons.1 hj with rfl | hj
    ·rw [List.getElem?_eq_getElem hx, List.getElem?_eq_getElem hy, e]
    ·exact k j hj
   ·intro k j hj
    exact k j (List.mem_cons_of_mem _ hj)
  ·have e' : (xs[i] == ys[i]) = false := by simpa using e
   rw [e']
   simp only [Bool.not_false, if_true, Sem.run_pure]
   congr 1
   symm
   rw [decide_eq_false_iff_not]
   intro k
   have := k i (List.mem_cons_self)
   rw [List.getElem?_eq_getElem hx, List.getElem?_eq_getElem hy] at this
   exact e (Option.some.inj this)
set_option maxRecDepth 100000 in
theorem eq8 (xs ys : List Int) (hx : xs.length = 8) (hy : ys.length = 8) (W : World) : (Op.equalIn 10000 141 (.agg (encs (Value.int .u64) xs).toArray) (.agg (encs (Value.int .u64) ys).toArray)).run Tryz.prog W = .ok (decide (xs = ys)) W := by
 obtain ⟨i, hi, _⟩ := u64_info_ex
 rw [run_equalIn_array W 9999 _ _ arr8_at hi, cells_u64, eq_items 9998 xs ys W (List.range 8) (fun j hj => by rw [List.mem_range] at hj; omega)]
 congr 1
 rw [decide_eq_decide]
 constructor
 ·intro h
  apply List.ext_getElem?
  intro j
  rcases Nat.lt_or_ge j 8 with hj | hj
  ·exact h j (List.mem_range.2 hj)
  ·rw [List.getElem?_eq_none (by omega), List.getElem?_eq_none (by omega)]
 ·intro h j _
  rw [h]
set_option maxRecDepth 100000 in
theorem load8 (W : World) (ad : Addr) (l : List Int) (h8 : l.length = 8) (hc : ∀ j v, (encs (Value.int .u64) l)[j]? = some v → W.cell? (ad.add j) = some v) :
  (loadVar 141 ad).run Tryz.prog W = .ok (.agg (encs (Value.int .u64) l).toArray) W := by
 have hl := run_loadCells_list (P := Tryz.prog) W ad (encs (Value.int .u64) l) hc
 have hi := head_sz l h8
 cases hq : Tryz.prog.info? 141 with
 | none => rw [hq] at hi; cases hi
 | some i =>
  have hs : i.size = 8 := by rw [hq, Option.map_some, List.size_toArray, encs_length, h8] at hi; exact Option.some.inj hi
  have hagg : (isAgg 141).run Tryz.prog W = .ok true W := by
   unfold isAgg
   rw [Sem.run_bind, run_underlying arr8_at W]
   simp
  rw [encs_length, h8] at hl
  simp [loadVar, Sem.run_bind, hagg, sizeOf, typeInfo, hq, hs, hl]
theorem wpList_load8 {ops : Array Oper} {rest : List Oper} {o : Oper} {a : Act} {w : World} {Q : Exit → Act → World → Prop} (hgd : o.guard = none) (x : Operand) (ho : o.op = .load 141 x)
  (ad : Addr) (hx : a.eval x = .pointer (some ad)) (l : List Int) (h8 : l.length = 8) (hc : ∀ j v, (encs (Value.int .u64) l)[j]? = some v → w.cell? (ad.add j) = some v) (cs : Array Value) (hcs : (encs (Value.int .u64) l).toArray = cs)
  (h : wpList Tryz.prog ops Q rest (a.put o.dst (.agg cs)) w) : wpList Tryz.prog ops Q (o :: rest) a w :=
 wpList_plain hgd fun K hK => by
  subst hcs
  unfold Oper.wp execOp
  simp only [ho, hx, Instr.loadAt, Instr.sureAddr, Sem.run_bind, Sem.run_pure, Result.andThen_ok, load8 w ad l h8 hc]
  exact hK _ _ h
noncomputable def superV (l : List Int) : Option (Int × Int × Int) :=
 if l.length < 8 then some (0, 0, 7) else
 if rd l 3 > 64 then some (0, 0, 7) else
 (geo_Right.f (l.length : Int) (rd l 3)).bind fun b => if b = true then
  (geo_Chunks.f (l.length : Int) (rd l 3)).bind fun n => if 0 ≤ n ∧ n ≤ 9223372036854775807 then
   (if l.take 8 = headL (l.length : Int) (rd l 3) n then some ((l.length : Int), rd l 3, 0) else some (0, 0, 7)) else none
 else some (0, 0, 7)
noncomputable def super_Decode.f (l0 : List Int) : Option (Int × Int × Int) := if (∀ x ∈ l0, 0 ≤ x ∧ x ≤ 18446744073709551615) then superV l0 else none
noncomputable def DecSaid (r1 r2 r3 : Int) (w : World) (e : Ending) (w' : World) : Prop := e = .returned (.tuple #[.agg #[.int .i64 r1, .int .i64 r2], .int .i64 r3]) ∧ Below w.heap.size w w'
set_option maxRecDepth 100000 in
set_option maxHeartbeats 4000000 in
theorem dec_short (A0 : Option Addr) (c0 n : Nat) (w : World) (hn : n < 8) : Calls Tryz.prog 62 #[.slice A0 n c0] w (DecSaid 0 0 7 w) := by
 have hn' : decide ((n : Int) < 8) = true := by simp; omega
 go_enter Tryz.func62, Tryz.ntmps62
 go_wp2_with fail
 refine bodyPost_ret (results_ct rfl _ _ w.heap.size 51 #[.int .i64 0, .int .i64 0] (0, 0) _ rfl (blk_new w _) Tryz.underlying51 rfl (by kernel_rfl)) rfl ⟨rfl, ?_⟩
 exact (Below.refl _ w).alloc (Nat.le_refl _) _
theorem kd_keep {w w1 w2 : World} {H G : Nat} {x0 x1 x2 x3 x4 x5 x6 x7 n_ l_ : Int} (hb : Below w1.heap.size w1 w2)
  (h : w1.cell? ⟨H, 0, none⟩ = some (.int .u64 x0) ∧ w1.cell? ⟨H, 1, none⟩ = some (.int .u64 x1) ∧ w1.cell? ⟨H, 2, none⟩ = some (.int .u64 x2) ∧ w1.cell? ⟨H, 3, none⟩ = some (.int .u64 x3) ∧ w1.cell? ⟨H, 4, none⟩ = some (.int .u64 x4) ∧ w1.cell? ⟨H, 5, none⟩ = some (.int .u64 x5) ∧ w1.cell? ⟨H, 6, none⟩ = some (.int .u64 x6) ∧ w1.cell? ⟨H, 7, none⟩ = some (.int .u64 x7) ∧ w1.cell? ⟨G, 0, none⟩ = some (.int .i64 n_) ∧ w1.cell? ⟨G, 1, none⟩ = some (.int .i64 l_) ∧ Below w.heap.size w w1) : w2.cell? ⟨H, 0, none⟩ = some (.int .u64 x0) ∧ w2.cell? ⟨H, 1, none⟩ = some (.int .u64 x1) ∧ w2.cell? ⟨H, 2, none⟩ = some (.int .u64 x2) ∧ w2.cell? ⟨H, 3, none⟩ = some (.int .u64 x3) ∧ w2.cell? ⟨H, 4, none⟩ = some (.int .u64 x4) ∧ w2.cell? ⟨H, 5, none⟩ = some (.int .u64 x5) ∧ w2.cell? ⟨H, 6, none⟩ = some (.int .u64 x6) ∧ w2.cell? ⟨H, 7, none⟩ = some (.int .u64 x7) ∧ w2.cell? ⟨G, 0, none⟩ = some (.int .i64 n_) ∧ w2.cell? ⟨G, 1, none⟩ = some (.int .i64 l_) ∧ Below w.heap.size w w2 := by
 obtain ⟨h0, h1, h2, h3, h4, h5, h6, h7, h8, h9, hc⟩ := h
 exact ⟨pw_cell_below hb h0, pw_cell_below hb h1, pw_cell_below hb h2, pw_cell_below hb h3, pw_cell_below hb h4, pw_cell_below hb h5, pw_cell_below hb h6, pw_cell_below hb h7, pw_cell_below hb h8, pw_cell_below hb h9, below_step hc hb⟩
set_option maxRecDepth 100000 in
set_option maxHeartbeats 4000000 in
theorem dec_long (ad : Addr) (c0 N : Nat) (x0 x1 x2 x3 x4 x5 x6 x7 : Int) (r1 r2 r3 : Int) (w : World) (hN : 8 ≤ N) (hNc : N ≤ c0) (hmx : N ≤ 9223372036854775807)
  (hc : ∀ j v, (encs (Value.int .u64) [x0, x1, x2, x3, x4, x5, x6, x7])[j]? = some v → w.cell? (ad.add j) = some v) (hx3 : 0 ≤ x3) (hx3m : x3 ≤ 18446744073709551615)
  (h : (if x3 > 64 then some (0, 0, 7) else (geo_Right.f (N : Int) x3).bind fun b => if b = true then
   (geo_Chunks.f (N : Int) x3).bind fun n => if 0 ≤ n ∧ n ≤ 9223372036854775807 then
   (if [x0, x1, x2, x3, x4, x5, x6, x7] = headL (N : Int) x3 n then some ((N : Int), x3, 0) else some (0, 0, 7)) else none
   else some (0, 0, 7)) = some (r1, r2, r3)) : Calls Tryz.prog 62 #[.slice (some ad) N c0] w (DecSaid r1 r2 r3 w) := by
 have HC := Lib.hid hc
 have HF := Lib.hid h
 clear hc h
 have hn1 : decide ((N : Int) < 8) = false := by simp; omega
 have hn2 : (8 : Int) ≤ (N : Int) := by omega
 have hn3 : (8 : Int) ≤ (c0 : Int) := by omega
 have hn4 : 8 ≤ c0 := by omega
 have har : ∀ (W : World) (A : Option Addr) (c : Nat), (Instr.arrayAt 141 (.slice A 8 c)).run Tryz.prog W = .ok (.pointer A) W := fun W A c => run_arrayAt W 141 33 8 A 8 c arr8_at (Nat.le_refl _)
 go_enter Tryz.func62, Tryz.ntmps62
 go_wp2_with (first
  | (refine wpList_load8 rfl (.tmp 12) rfl ad rfl [x0, x1, x2, x3, x4, x5, x6, x7] rfl ?hcc #[.int .u64 x0, .int .u64 x1, .int .u64 x2, .int .u64 x3, .int .u64 x4, .int .u64 x5, .int .u64 x6, .int .u64 x7] rfl ?_; (case hcc => intro j v hv; exact pw_cell_below ((Below.refl _ w).alloc (Nat.le_refl _) _) (HC.out j v hv))))
 have hG := blk_new ((w.alloc (.cells #[.int .i64 0, .int .i64 0] 51)).alloc (.cells #[.int .u64 x0, .int .u64 x1, .int .u64 x2, .int .u64 x3, .int .u64 x4, .int .u64 x5, .int .u64 x6, .int .u64 x7] 141)) (.cells #[.int .i64 (N : Int), .int .i64 (wrap64 x3)] 51)
 have hH := blk_alloc (blk_new (w.alloc (.cells #[.int .i64 0, .int .i64 0] 51)) (.cells #[.int .u64 x0, .int .u64 x1, .int .u64 x2, .int .u64 x3, .int .u64 x4, .int .u64 x5, .int .u64 x6, .int .u64 x7] 141)) (.cells #[.int .i64 (N : Int), .int .i64 (wrap64 x3)] 51)
 have hR := blk_alloc (blk_alloc (blk_new w (.cells #[.int .i64 0, .int .i64 0] 51)) (.cells #[.int .u64 x0, .int .u64 x1, .int .u64 x2, .int .u64 x3, .int .u64 x4, .int .u64 x5, .int .u64 x6, .int .u64 x7] 141)) (.cells #[.int .i64 (N : Int), .int .i64 (wrap64 x3)] 51)
 have hbw : Below w.heap.size w (((w.alloc (.cells #[.int .i64 0, .int .i64 0] 51)).alloc (.cells #[.int .u64 x0, .int .u64 x1, .int .u64 x2, .int .u64 x3, .int .u64 x4, .int .u64 x5, .int .u64 x6, .int .u64 x7] 141)).alloc (.cells #[.int .i64 (N : Int), .int .i64 (wrap64 x3)] 51)) := (((Below.refl _ w).alloc (Nat.le_refl _) _).alloc (by simp) _).alloc (by simp; omega) _
 simp only [World.size_alloc] at hG hH hR
 obtain ⟨W, hW⟩ : ∃ W, (((w.alloc (.cells #[.int .i64 0, .int .i64 0] 51)).alloc (.cells #[.int .u64 x0, .int .u64 x1, .int .u64 x2, .int .u64 x3, .int .u64 x4, .int .u64 x5, .int .u64 x6, .int .u64 x7] 141)).alloc (.cells #[.int .i64 (N : Int), .int .i64 (wrap64 x3)] 51)) = W := ⟨_, rfl⟩
 rw [hW] at hG hH hR hbw ⊢
 obtain ⟨R, hRe⟩ : ∃ R, w.heap.size = R := ⟨_, rfl⟩
 rw [hRe] at hG hH hR
 simp only [hRe]
 have HRE := Lib.hid hRe
 have HR := Lib.hid hR
 have HBW := Lib.hid hbw
 clear hW hRe hR hbw HC hN hNc hn1 hn2 hn3 hn4 har
 by_cases hbig : 64 < x3
 ·have hx3c := (blk_cell hH 3).trans (show _ = some (Value.int .u64 x3) from rfl)
  go_quiet (fail)
  have hq0 := (blk_cell HR.out 0).trans (show _ = some (Value.int .i64 0) from rfl)
  have hq1 := (blk_cell HR.out 1).trans (show _ = some (Value.int .i64 0) from rfl)
  have hz0 := blk_frozen HR.out 0
  have hz1 := blk_frozen HR.out 1
  go_wp2_with fail
  have h := HF.out
  rw [if_pos hbig] at h
  cases h
  have hle : w.heap.size ≤ R := by have := HRE.out; omega
  refine bodyPost_ret (results_ct rfl _ _ R 51 #[.int .i64 0, .int .i64 0] (0, 0) _ rfl (blk_put (blk_put (blk_drewN HR.out _) 0 (.int .i64 0) rfl) 1 (.int .i64 0) rfl) Tryz.underlying51 rfl (by kernel_rfl)) rfl ⟨rfl, below_set (below_set (pw_below_drewN HBW.out _) hle) hle⟩
 ·have h := HF.out
  rw [if_neg (by omega)] at h
  have hl64 : wrap64 x3 = x3 := by unfold wrap64; omega
  rw [hl64] at hG
  simp only [hl64]
  obtain ⟨b, hb, h⟩ := Option.bind_eq_some_iff.1 h
  have HRT := Lib.hid (fun W => geo_Right.calls (N : Int) x3 b W hb)
  have hS0 : W.cell? ⟨R + 1, 0, none⟩ = some (.int .u64 x0) ∧ W.cell? ⟨R + 1, 1, none⟩ = some (.int .u64 x1) ∧ W.cell? ⟨R + 1, 2, none⟩ = some (.int .u64 x2) ∧ W.cell? ⟨R + 1, 3, none⟩ = some (.int .u64 x3) ∧ W.cell? ⟨R + 1, 4, none⟩ = some (.int .u64 x4) ∧ W.cell? ⟨R + 1, 5, none⟩ = some (.int .u64 x5) ∧ W.cell? ⟨R + 1, 6, none⟩ = some (.int .u64 x6) ∧ W.cell? ⟨R + 1, 7, none⟩ = some (.int .u64 x7) ∧ W.cell? ⟨R + 1 + 1, 0, none⟩ = some (.int .i64 (N : Int)) ∧ W.cell? ⟨R + 1 + 1, 1, none⟩ = some (.int .i64 x3) ∧ Below W.heap.size W W := ⟨(blk_cell hH 0).trans rfl, (blk_cell hH 1).trans rfl, (blk_cell hH 2).trans rfl, (blk_cell hH 3).trans rfl, (blk_cell hH 4).trans rfl, (blk_cell hH 5).trans rfl, (blk_cell hH 6).trans rfl, (blk_cell hH 7).trans rfl, (blk_cell hG 0).trans rfl, (blk_cell hG 1).trans rfl, Below.refl _ _⟩
  have hx64 : decide (64 < x3) = false := by simp; omega
  have hle : w.heap.size ≤ R := by have := HRE.out; omega
  have HLE := Lib.hid hle
  clear hl64 hG hH hb hbig HF hle
  cases b with
  | false =>
   simp only [Bool.false_eq_true, if_false] at h
   cases h
   obtain ⟨hS3, hSn, hSl⟩ : W.cell? ⟨R + 1, 3, none⟩ = some (.int .u64 x3) ∧ W.cell? ⟨R + 1 + 1, 0, none⟩ = some (.int .i64 (N : Int)) ∧ W.cell? ⟨R + 1 + 1, 1, none⟩ = some (.int .i64 x3) := ⟨hS0.2.2.2.1, hS0.2.2.2.2.2.2.2.2.1, hS0.2.2.2.2.2.2.2.2.2.1⟩
   clear hS0
   go_region_with (go_at_call 87; refine (HRT.out _).mono ?_; rintro e w4 ⟨rfl, hb4⟩)
   all_goals
    have hb4' : Below W.heap.size W w4 := by first | exact hb4 | exact below_step (below_drew1 (Below.refl _ _)) hb4 | exact below_step (pw_below_drewN (Below.refl _ _) _) hb4
    have hRw := blk_below HR.out hb4'
    have hbW := below_step HBW.out hb4'
    have hq0 := (blk_cell hRw 0).trans (show _ = some (Value.int .i64 0) from rfl)
    have hq1 := (blk_cell hRw 1).trans (show _ = some (Value.int .i64 0) from rfl)
    have hz0 := blk_frozen hRw 0
    have hz1 := blk_frozen hRw 1
    go_wp2_with fail
    refine bodyPost_ret (results_ct rfl _ _ R 51 #[.int .i64 0, .int .i64 0] (0, 0) _ rfl (blk_put (cs := #[.int .i64 0, .int .i64 0]) (blk_put hRw 0 (.int .i64 0) rfl) 1 (.int .i64 0) rfl) Tryz.underlying51 rfl (by kernel_rfl)) rfl ⟨rfl, below_set (below_set hbW HLE.out) HLE.out⟩
  | true =>
   simp only [if_true] at h
   obtain ⟨n, hn, h⟩ := Option.bind_eq_some_iff.1 h
   by_cases hnn : 0 ≤ n ∧ n ≤ 9223372036854775807
   ·rw [if_pos hnn] at h
    obtain ⟨Hd, hHd⟩ : ∃ Hd, (encs (Value.int .u64) (headL (N : Int) x3 n)).toArray = Hd := ⟨_, rfl⟩
    have hof := fun W => of_calls (N : Int) x3 n hn ⟨by omega, by omega⟩ ⟨hx3, by have := of_decide_eq_false hx64; omega⟩ hnn W
    have heq := fun W => eq8 [x0, x1, x2, x3, x4, x5, x6, x7] (headL (N : Int) x3 n) rfl (head_len _ _ _) W
    simp only [hHd] at hof heq
    have HOF := Lib.hid hof
    have heq' : ∀ W, (Op.equalIn 10000 141 (.agg #[.int .u64 x0, .int .u64 x1, .int .u64 x2, .int .u64 x3, .int .u64 x4, .int .u64 x5, .int .u64 x6, .int .u64 x7]) (.agg Hd)).run Tryz.prog W = .ok (decide ([x0, x1, x2, x3, x4, x5, x6, x7] = headL (N : Int) x3 n)) W := heq
    have HHF := Lib.hid h
    have HBB : Hid (∃ bb, bb = decide ([x0, x1, x2, x3, x4, x5, x6, x7] = headL (N : Int) x3 n)) := Lib.hid ⟨_, rfl⟩
    obtain ⟨bb, hbb⟩ := HBB.out
    rw [← hbb] at heq'
    have HBE := Lib.hid hbb
    clear hof heq hHd hn h hbb HBB hnn
    go_region_held3 (fun w' => w'.cell? ⟨R + 1, 0, none⟩ = some (.int .u64 x0) ∧ w'.cell? ⟨R + 1, 1, none⟩ = some (.int .u64 x1) ∧ w'.cell? ⟨R + 1, 2, none⟩ = some (.int .u64 x2) ∧ w'.cell? ⟨R + 1, 3, none⟩ = some (.int .u64 x3) ∧ w'.cell? ⟨R + 1, 4, none⟩ = some (.int .u64 x4) ∧ w'.cell? ⟨R + 1, 5, none⟩ = some (.int .u64 x5) ∧ w'.cell? ⟨R + 1, 6, none⟩ = some (.int .u64 x6) ∧ w'.cell? ⟨R + 1, 7, none⟩ = some (.int .u64 x7) ∧ w'.cell? ⟨R + 1 + 1, 0, none⟩ = some (.int .i64 (N : Int)) ∧ w'.cell? ⟨R + 1 + 1, 1, none⟩ = some (.int .i64 x3) ∧ Below W.heap.size W w')
     (first | assumption | exact kd_keep (below_drew1 (Below.refl _ _)) hS0 | exact kd_keep (pw_below_drewN (Below.refl _ _) _) (by assumption) | exact kd_keep (by assumption) (by assumption))
     (first | (go_at_call 87; (with_reducible refine (HRT.out _).mono ?_); rintro e w4 ⟨rfl, hb4⟩) | (go_at_call 88; (with_reducible refine (HOF.out _).mono ?_); rintro e w5 ⟨rfl, hb5⟩))
    obtain ⟨hSn, hSl, hb5'⟩ : w5.cell? ⟨R + 1 + 1, 0, none⟩ = some (.int .i64 (N : Int)) ∧ w5.cell? ⟨R + 1 + 1, 1, none⟩ = some (.int .i64 x3) ∧ Below W.heap.size W w5 := by
     obtain ⟨_, _, _, _, _, _, _, _, k8, k9, kb⟩ : w5.cell? ⟨R + 1, 0, none⟩ = some (.int .u64 x0) ∧ w5.cell? ⟨R + 1, 1, none⟩ = some (.int .u64 x1) ∧ w5.cell? ⟨R + 1, 2, none⟩ = some (.int .u64 x2) ∧ w5.cell? ⟨R + 1, 3, none⟩ = some (.int .u64 x3) ∧ w5.cell? ⟨R + 1, 4, none⟩ = some (.int .u64 x4) ∧ w5.cell? ⟨R + 1, 5, none⟩ = some (.int .u64 x5) ∧ w5.cell? ⟨R + 1, 6, none⟩ = some (.int .u64 x6) ∧ w5.cell? ⟨R + 1, 7, none⟩ = some (.int .u64 x7) ∧ w5.cell? ⟨R + 1 + 1, 0, none⟩ = some (.int .i64 (N : Int)) ∧ w5.cell? ⟨R + 1 + 1, 1, none⟩ = some (.int .i64 x3) ∧ Below W.heap.size W w5 := by assumption
     exact ⟨k8, k9, kb⟩
    have hRw := blk_below HR.out hb5'
    have hbW := below_step HBW.out hb5'
    have hq0 := (blk_cell hRw 0).trans (show _ = some (Value.int .i64 0) from rfl)
    have hq1 := (blk_cell hRw 1).trans (show _ = some (Value.int .i64 0) from rfl)
    have hz0 := blk_frozen hRw 0
    have hz1 := blk_frozen hRw 1
    cases bb with
    | false =>
     have h := HHF.out
     rw [if_neg (by simpa using HBE.out.symm)] at h
     cases h
     go_wp2_with fail
     refine bodyPost_ret (results_ct rfl _ _ R 51 #[.int .i64 0, .int .i64 0] (0, 0) _ rfl (blk_put (cs := #[.int .i64 0, .int .i64 0]) (blk_put hRw 0 (.int .i64 0) rfl) 1 (.int .i64 0) rfl) Tryz.underlying51 rfl (by kernel_rfl)) rfl ⟨rfl, below_set (below_set hbW HLE.out) HLE.out⟩
    | true =>
     have h := HHF.out
     rw [if_pos (by simpa using HBE.out.symm)] at h
     cases h
     go_wp2_with fail
     refine bodyPost_ret (results_ct rfl _ _ R 51 #[.int .i64 (N : Int), .int .i64 x3] (0, 0) _ rfl (blk_put (cs := #[.int .i64 (N : Int), .int .i64 0]) (blk_put hRw 0 (.int .i64 (N : Int)) rfl) 1 (.int .i64 x3) rfl) Tryz.underlying51 rfl (by kernel_rfl)) rfl ⟨rfl, below_set (below_set hbW HLE.out) HLE.out⟩
   ·rw [if_neg hnn] at h; cases h
theorem super_Decode.calls (A0 : Option Addr) (c0 : Nat) (l0 : List Int) (r1 : Int) (r2 : Int) (r3 : Int) (w : World) (hr0 : Kd.C (Kd.int .u64) w A0 l0.length l0) (hc0 : l0.length ≤ c0) (h : super_Decode.f l0 = some (r1, r2, r3)) :
  Calls Tryz.prog 62 #[.slice A0 l0.length c0] w fun e w' => e = .returned (.tuple #[.agg #[.int .i64 r1, .int .i64 r2], .int .i64 r3]) ∧ Below w.heap.size w w' := by
 unfold super_Decode.f at h
 split at h
 case isFalse => cases h
 case isTrue hwf =>
 unfold superV at h
 by_cases h8 : l0.length < 8
 ·rw [if_pos h8] at h
  cases h
  exact dec_short A0 c0 l0.length w h8
 rw [if_neg h8] at h
 have hmx : l0.length ≤ 9223372036854775807 := hr0.2.1
 obtain ⟨x0, x1, x2, x3, x4, x5, x6, x7, rest, rfl⟩ : ∃ x0 x1 x2 x3 x4 x5 x6 x7 rest, l0 = x0 :: x1 :: x2 :: x3 :: x4 :: x5 :: x6 :: x7 :: rest := by
  match l0, h8 with
  | a :: b :: c :: d :: e :: f :: g :: i :: rest, _ => exact ⟨a, b, c, d, e, f, g, i, rest, rfl⟩
  | [], h => exact absurd (by simp) h
  | [_], h => exact absurd (by simp) h
  | [_, _], h => exact absurd (by simp) h
  | [_, _, _], h => exact absurd (by simp) h
  | [_, _, _, _], h => exact absurd (by simp) h
  | [_, _, _, _, _], h => exact absurd (by simp) h
  | [_, _, _, _, _, _], h => exact absurd (by simp) h
  | [_, _, _, _, _, _, _], h => exact absurd (by simp) h
 obtain ⟨ad, rfl, _⟩ := hr0.2.2 (by omega)
 have hx3 := hwf x3 (by simp)
 refine dec_long ad c0 _ x0 x1 x2 x3 x4 x5 x6 x7 r1 r2 r3 w (by omega) hc0 hmx ?_ hx3.1 hx3.2 h
 intro j v hv
 refine src7 hr0 (Below.refl _ _) j v ?_
 unfold encs at hv ⊢
 rw [List.getElem?_map, Option.map_eq_some_iff] at hv ⊢
 obtain ⟨x, hx, rfl⟩ := hv
 refine ⟨x, ?_, rfl⟩
 have hj : j < 8 := by
  rcases Nat.lt_or_ge j 8 with h | h
  ·exact h
  ·rw [List.getElem?_eq_none h] at hx; cases hx
 rw [← hx]
 match j, hj with
 | 0, _ => rfl
 | 1, _ => rfl
 | 2, _ => rfl
 | 3, _ => rfl
 | 4, _ => rfl
 | 5, _ => rfl
 | 6, _ => rfl
 | 7, _ => rfl
 | j + 8, hj => omega
end Go.Proofs.YtbbpcbjgekencaaGreatDoor.H
end
section
set_option linter.unusedVariables false
set_option linter.unusedSimpArgs false
set_option linter.unusedVariables false
set_option linter.unusedSimpArgs false
set_option maxRecDepth 100000
namespace Go.Proofs.YtbbpcbjgekencaaGreatDoor.H
open Go Go.RowKit Go.Proofs.YtbbpcbjgekencaaGreatDoorW.PrintWords Go.Proofs.YtbbpcbjgekencaaGreatDoor Go.Proofs.YtbbpcbjgekencaaGreatDoor.Q
noncomputable def sound_pool_root.f (k : Nat) (l0_0 : List Int) (a0_1 : Int) (a0_2 : Int) : Option (Bool) := FT.sound_pool_root.f k l0_0 a0_1 a0_2
theorem sound_pool_root.calls (k : Nat) (A0_0 : Option Addr) (c0_0 : Nat) (l0_0 : List Int) (a0_1 : Int) (a0_2 : Int) (r : Bool) (w : World) (hr0_0 : Kd.C (Kd.int .u64) w A0_0 l0_0.length l0_0) (hc0_0 : l0_0.length ≤ c0_0) (h : sound_pool_root.f k l0_0 a0_1 a0_2 = some r) :
  CallsG 66 #[.agg #[.slice A0_0 l0_0.length c0_0, .int .i64 a0_1, .int .i64 a0_2]] w fun e w' => e = .returned (.bool r) ∧ Below w.heap.size w w' := by
 intro hG
 unfold sound_pool_root.f at h
 have hq := h
 refine (Ev.ok_calls (FT.sound_pool_root.o).ok (k := k) (ats := [.sl 33 l0_0, .int a0_1, .int a0_2]) hq (xs := [.t (.agg [.sl .far 33 l0_0, .c (.int .i64 a0_1), .c (.int .i64 a0_2)])]) rfl rfl (vals := #[.agg #[.slice A0_0 l0_0.length c0_0, .int .i64 a0_1, .int .i64 a0_2]]) (.cons (.t (.agg (Ev.concL_cons (Ev.conc_of_C (Ev.tab_ok Ev.gl0) (e := 33) (Kd.int .u64) rfl hr0_0 hc0_0 (of_decide_eq_true (by kernel_rfl)) (Ev.k1_33 fun q hq => Ev.any_far hq) fun q hq => Ev.any_far hq) (Ev.concL_cons (.c _) (Ev.concL_cons (.c _) Ev.concL_nil))))) .nil) (of_gl hG)).mono ?_
 rintro e w' ⟨x, E', rfl, hL⟩
 rw [Ev.left_value hL rfl]
 exact ⟨rfl, Ev.left_below hL⟩
end Go.Proofs.YtbbpcbjgekencaaGreatDoor.H
end
section
set_option linter.unusedVariables false
set_option linter.unusedSimpArgs false
set_option linter.unusedVariables false
set_option linter.unusedSimpArgs false
set_option maxRecDepth 100000
noncomputable section
namespace Go.Proofs.YtbbpcbjgekencaaGreatDoor.FT
open Go Go.Proofs.YtbbpcbjgekencaaGreatDoor Go.Proofs.YtbbpcbjgekencaaGreatDoor.Ev Go.Proofs.YtbbpcbjgekencaaGreatDoor.Q
open Go.IntKind (i64 u64 u32)
variable (g : List (Nat × Nat × Value))
mutual
def tile_Right.c5 : Nat → Bool → Int → Int → Int → List S114 → Option Bool
 | 0, _, _, _, _, _ => none
 | k + 1, a, b, c, d, e => (if decide (d < c) = true then (if 0 ≤ d then (if d < (e.length : Int) then (if d.toNat < e.length then (if (!((e.getD d.toNat z114).f0 == 3) == decide (b > 0)) = true then (some (false)) else (if ((e.getD d.toNat z114).f0 == 3) = true then (tile_Right.c8 k (a) (i64.wrap (b - 1)) (c) (d) (e)) else (if ((e.getD d.toNat z114).f0 == 2) = true then (tile_Right.c8 k (a) (i64.wrap ((e.getD d.toNat z114).f3 - 1)) (c) (d) (e)) else (tile_Right.c8 k (a) (b) (c) (d) (e))))) else none) else none) else none) else (if a = true then (some (b == 0)) else (some (false))))
def tile_Right.c8 : Nat → Bool → Int → Int → Int → List S114 → Option Bool
 | 0, _, _, _, _, _ => none
 | k + 1, a, b, c, d, e => (tile_Right.c5 k (a) (b) (c) (i64.wrap (d + 1)) (e))
end
def tile_Right.f (k : Nat) (a0 : List Int) : Option Bool := ((tile_Chunks.f k a0).bind fun y0 => (tile_Right.c5 k (y0.fst) (0) ((y0.snd.length : Int)) (0) (y0.snd)))
def tile_Right.o : FnOk T Tryz.prog := mkO (tab_ok gl0) 92 Tryz.func92 [tile_Chunks.o] [] [tc (qf 33)] [] (tc qB) [] tile_Right.f [mkC Bool 5 45 [(4, tc qB), (5, tc qI), (13, tc (qo 0)), (14, tc qI), (15, tc qI)] [(0, qr 114)] 0 [0, 1, 2, 3, 4] tile_Right.c5, mkC Bool 8 45 [(4, tc qB), (5, tc qI), (13, tc (qo 0)), (14, tc qI), (15, tc qI)] [(0, qr 114)] 0 [0, 1, 2, 3, 4] tile_Right.c8]
def sound_pool_tiles.c4 : Nat → Int → Int → List Int → Int → Int → List S114 → Option Bool
 | 0, _, _, _, _, _, _ => none
 | k + 1, a, b, c, d, e, g => (if decide (b < a) = true then (if 0 ≤ b then (if b < (g.length : Int) then (if b.toNat < g.length then (if ((g.getD b.toNat z114).f0 == 4) = true then (some (false)) else (sound_pool_tiles.c4 k (a) (i64.wrap (b + 1)) (c) (d) (e) (g))) else none) else none) else none) else ((sound_pool_table.f k c d e).bind fun y2 => ((tile_Right.f k y2).bind fun y3 => (some (y3)))))
def sound_pool_tiles.f (k : Nat) (a0_0 : List Int) (a0_1 a0_2 : Int) : Option Bool := ((sound_pool_table.f k a0_0 a0_1 a0_2).bind fun y0 => ((tile_Chunks.f k y0).bind fun y1 => (sound_pool_tiles.c4 k ((y1.snd.length : Int)) (0) (a0_0) (a0_1) (a0_2) (y1.snd))))
def sound_pool_tiles.o : FnOk T Tryz.prog := mkO (tab_ok gl0) 64 Tryz.func64 [tile_Chunks.o, sound_pool_table.o gl0, tile_Right.o] [] [ta [(qf 33), qI, qI]] [] (tc qB) [] sound_pool_tiles.f [mkC Bool 4 26 [(1, tc (qb 0)), (13, tc (qo 1)), (14, tc qI), (15, tc qI)] [(0, .box 73 [qf 33, qI, qI]), (1, qr 114)] 0 [0, 1, 2, 3, 4, 5] sound_pool_tiles.c4]
end Go.Proofs.YtbbpcbjgekencaaGreatDoor.FT
end
section
set_option linter.unusedVariables false
set_option linter.unusedSimpArgs false
set_option linter.unusedVariables false
set_option linter.unusedSimpArgs false
set_option maxRecDepth 100000
namespace Go.Proofs.YtbbpcbjgekencaaGreatDoor.H
open Go Go.RowKit Go.Proofs.YtbbpcbjgekencaaGreatDoorW.PrintWords Go.Proofs.YtbbpcbjgekencaaGreatDoor Go.Proofs.YtbbpcbjgekencaaGreatDoor.Q
noncomputable def sound_pool_tiles.f (k : Nat) (l0_0 : List Int) (a0_1 : Int) (a0_2 : Int) : Option (Bool) := FT.sound_pool_tiles.f k l0_0 a0_1 a0_2
theorem sound_pool_tiles.calls (k : Nat) (A0_0 : Option Addr) (c0_0 : Nat) (l0_0 : List Int) (a0_1 : Int) (a0_2 : Int) (r : Bool) (w : World) (hr0_0 : Kd.C (Kd.int .u64) w A0_0 l0_0.length l0_0) (hc0_0 : l0_0.length ≤ c0_0) (h : sound_pool_tiles.f k l0_0 a0_1 a0_2 = some r) :
  CallsG 64 #[.agg #[.slice A0_0 l0_0.length c0_0, .int .i64 a0_1, .int .i64 a0_2]] w fun e w' => e = .returned (.bool r) ∧ Below w.heap.size w w' := by
 intro hG
 unfold sound_pool_tiles.f at h
 have hq := h
 refine (Ev.ok_calls (FT.sound_pool_tiles.o).ok (k := k) (ats := [.sl 33 l0_0, .int a0_1, .int a0_2]) hq (xs := [.t (.agg [.sl .far 33 l0_0, .c (.int .i64 a0_1), .c (.int .i64 a0_2)])]) rfl rfl (vals := #[.agg #[.slice A0_0 l0_0.length c0_0, .int .i64 a0_1, .int .i64 a0_2]]) (.cons (.t (.agg (Ev.concL_cons (Ev.conc_of_C (Ev.tab_ok Ev.gl0) (e := 33) (Kd.int .u64) rfl hr0_0 hc0_0 (of_decide_eq_true (by kernel_rfl)) (Ev.k1_33 fun q hq => Ev.any_far hq) fun q hq => Ev.any_far hq) (Ev.concL_cons (.c _) (Ev.concL_cons (.c _) Ev.concL_nil))))) .nil) (of_gl hG)).mono ?_
 rintro e w' ⟨x, E', rfl, hL⟩
 rw [Ev.left_value hL rfl]
 exact ⟨rfl, Ev.left_below hL⟩
end Go.Proofs.YtbbpcbjgekencaaGreatDoor.H
end
