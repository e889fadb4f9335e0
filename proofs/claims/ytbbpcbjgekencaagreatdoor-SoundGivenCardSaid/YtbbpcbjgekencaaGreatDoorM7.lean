import Derived.Test.YtbbpcbjgekencaaGreatDoorM6
import Derived.Lib.Hide
import Derived.Maps.OwnOps
import Derived.Maps.Views
section
set_option linter.unusedVariables false
set_option linter.unusedSimpArgs false
set_option linter.unusedVariables false
set_option linter.unusedSimpArgs false
namespace Go.Proofs.YtbbpcbjgekencaaGreatDoor.H
open Go Go.RowKit Go.Proofs.YtbbpcbjgekencaaGreatDoorW.PrintWords Go.Proofs.YtbbpcbjgekencaaGreatDoorW.PrintLast Go.Proofs.YtbbpcbjgekencaaGreatDoorW.PrintMore Go.Proofs.YtbbpcbjgekencaaGreatDoor.Q
attribute [local go_sem] max2_int min2_int max_two min_two max_three min_three max_four min_four
noncomputable def ofW (n : Int) : Int := if n < 0 then -1 else if n ≤ 2 then 0 else if n ≤ 6 then 1 else if n ≤ 14 then 2 else -1
noncomputable def class_Of.f (a0 : Int) : Option Int := some (ofW a0)
set_option maxRecDepth 100000 in
set_option maxHeartbeats 2000000 in
theorem class_Of.calls (a0 : Int) (r : Int) (w : World) (h : class_Of.f a0 = some r) :
  CallsG 102 #[.int .i64 a0] w fun e w' => e = .returned (.int .i64 r) ∧ Drawn0 w w' := by
 rintro ⟨g0, g1, g2⟩
 cases h
 by_cases h1 : a0 < 0
 ·have e : ofW a0 = -1 := by unfold ofW; rw [if_pos h1]
  rw [e]; clear e g0 g1 g2
  go_enter Tryz.func102, Tryz.ntmps102
  go_wp2
  go_ret
  exact ⟨rfl, Drawn0.refl _⟩
 ·by_cases h2 : 4096 < a0
  ·have e : ofW a0 = -1 := by unfold ofW; rw [if_neg (by omega), if_neg (by omega), if_neg (by omega), if_neg (by omega)]
   have hd : decide (a0 ≤ 4096) = false := by simpa using h2
   have h0' : 0 ≤ a0 := by omega
   rw [e]; clear e g0 g1 g2 h1 h2
   go_enter Tryz.func102, Tryz.ntmps102
   go_wp2
   go_ret
   exact ⟨rfl, Drawn0.refl _⟩
  ·have hcase : (a0 ≤ 2 ∧ ofW a0 = 0) ∨ (2 < a0 ∧ a0 ≤ 6 ∧ ofW a0 = 1) ∨ (6 < a0 ∧ a0 ≤ 14 ∧ ofW a0 = 2) ∨ (14 < a0 ∧ ofW a0 = -1) := by
    unfold ofW; repeat' split
    all_goals omega
   obtain ⟨r, hr⟩ : ∃ r, ofW a0 = r := ⟨_, rfl⟩
   rw [hr] at hcase
   rw [hr]
   clear hr
   have h0' : 0 ≤ a0 := by omega
   have h4' : a0 ≤ 4096 := by omega
   have HC := Aside0.mk hcase
   have i0 : ∀ w, (Instr.index 159 (.agg #[.int .i64 4, .int .i64 8, .int .i64 16]) (.int .i64 0)).run Tryz.prog w = .ok (.int .i64 4) w := fun _ => by kernel_rfl
   have i1 : ∀ w, (Instr.index 159 (.agg #[.int .i64 4, .int .i64 8, .int .i64 16]) (.int .i64 1)).run Tryz.prog w = .ok (.int .i64 8) w := fun _ => by kernel_rfl
   have i2 : ∀ w, (Instr.index 159 (.agg #[.int .i64 4, .int .i64 8, .int .i64 16]) (.int .i64 2)).run Tryz.prog w = .ok (.int .i64 16) w := fun _ => by kernel_rfl
   clear hcase h1 h2
   go_enter Tryz.func102, Tryz.ntmps102
   go_wp2
   go_loop [9] (fun i => ∃ k : Nat, k ≤ 3 ∧ i = .int .i64 (k : Int) ∧ Hid ((0 < k → 2 < a0) ∧ (1 < k → 6 < a0) ∧ (2 < k → 14 < a0))) (fun i => 3 - (intOf i).toNat)
   case atStart => exact ⟨0, by omega, rfl, Lib.hid ⟨by omega, by omega, by omega⟩⟩
   case round =>
    obtain ⟨k, hk, rfl, HK⟩ := hrel
    rcases (show k = 0 ∨ k = 1 ∨ k = 2 ∨ k = 3 by omega) with rfl | rfl | rfl | rfl
    ·by_cases hc : a0 + 2 ≤ 4
     ·go_wp2
      go_ret
      have h1 := HC.out
      obtain rfl : r = 0 := by omega
      exact ⟨rfl, Drawn0.refl _⟩
     ·go_wp2
      go_round
      case rel => exact ⟨1, by omega, rfl, Lib.hid ⟨by omega, by omega, by omega⟩⟩
      case measure => simp [intOf]
    ·by_cases hc : a0 + 2 ≤ 8
     ·go_wp2
      go_ret
      have h1 := HC.out
      have h2 := HK.out
      obtain rfl : r = 1 := by omega
      exact ⟨rfl, Drawn0.refl _⟩
     ·go_wp2
      go_round
      case rel => exact ⟨2, by omega, rfl, Lib.hid ⟨by omega, by omega, by omega⟩⟩
      case measure => simp [intOf]
    ·by_cases hc : a0 + 2 ≤ 16
     ·go_wp2
      go_ret
      have h1 := HC.out
      have h2 := HK.out
      obtain rfl : r = 2 := by omega
      exact ⟨rfl, Drawn0.refl _⟩
     ·go_wp2
      go_round
      case rel => exact ⟨3, by omega, rfl, Lib.hid ⟨by omega, by omega, by omega⟩⟩
      case measure => simp [intOf]
    ·go_wp2
     go_ret
     have h1 := HC.out
     have h2 := HK.out
     obtain rfl : r = -1 := by omega
     exact ⟨rfl, Drawn0.refl _⟩
end Go.Proofs.YtbbpcbjgekencaaGreatDoor.H
end
section
set_option linter.unusedVariables false
set_option linter.unusedSimpArgs false
set_option linter.unusedVariables false
set_option linter.unusedSimpArgs false
set_option maxRecDepth 100000
noncomputable section
namespace Go.Proofs.YtbbpcbjgekencaaGreatDoor.FT
open Go Go.Proofs.YtbbpcbjgekencaaGreatDoor Go.Proofs.YtbbpcbjgekencaaGreatDoor.Ev Go.Proofs.YtbbpcbjgekencaaGreatDoor.Q
open Go.IntKind (i64 u64 u32)
variable (g : List (Nat × Nat × Value))
noncomputable def class_Of.f (k : Nat) (a0 : Int) : Option (Int) := H.class_Of.f a0
noncomputable def class_Of.F : EvForm Γ := mkF [] [tc qI] [] (tc qI) [] class_Of.f
theorem class_Of.ok : CallOk T Tryz.prog 102 class_Of.F.fn := by
 refine hand_ok Tryz.func102 (by kernel_rfl) (by kernel_rfl) _ rfl (fun k ats r hf E A w vals hv hg => ?_) (tab_ok gl0)
 have hf : class_Of.f k (aI ats 0) = some r := hf
 unfold class_Of.f at hf
 generalize hx0 : (aI ats 0) = x0 at hf
 have hv : ConcAs T E (SB T w (Ev.Own (T := T) E []) A E [] w) w [.t (.cell (.c (.int .i64 x0)))] vals := by subst hx0; have := hv; exact this
 obtain ⟨u0, _, rfl, h0, hv1⟩ := concAs_uncons hv
 obtain rfl := conc_c (concA_cell h0)
 obtain rfl := concAs_unnil hv1
 have hc := H.class_Of.calls x0 r w  hf
 have hc := hc (H.gl_of hg)
 refine hc.mono fun e w' h => ?_
 obtain ⟨rfl, hb⟩ := h
 exact ⟨_, E, rfl, hb.below, ofValue_conc _ _ rfl, memOk_nil, fun q h => absurd h own_none⟩
noncomputable def class_Of.o : FnOk T Tryz.prog := ⟨102, class_Of.F, class_Of.ok⟩
end Go.Proofs.YtbbpcbjgekencaaGreatDoor.FT
end
section
set_option linter.unusedVariables false
set_option linter.unusedSimpArgs false
set_option linter.unusedVariables false
set_option linter.unusedSimpArgs false
set_option maxRecDepth 100000
noncomputable section
namespace Go.Proofs.YtbbpcbjgekencaaGreatDoor.FT
open Go Go.Proofs.YtbbpcbjgekencaaGreatDoor Go.Proofs.YtbbpcbjgekencaaGreatDoor.Ev Go.Proofs.YtbbpcbjgekencaaGreatDoor.Q
open Go.IntKind (i64 u64 u32)
variable (g : List (Nat × Nat × Value))
def class_Right.f (k : Nat) (a0 : Int) : Option Bool := (if decide (a0 ≥ 0) = true then (some (decide (a0 ≤ 4096))) else (some (false)))
def class_Right.o : FnOk (Tg g) Tryz.prog := mkO (tab_ok g) 118 Tryz.func118 [] [] [tc qI] [] (tc qB) [] class_Right.f []
def class_takes.f (k : Nat) (a0 : Int) : Option Int := (some (i64.wrap (a0 + 2)))
def class_takes.o : FnOk (Tg g) Tryz.prog := mkO (tab_ok g) 119 Tryz.func119 [] [] [tc qI] [] (tc qI) [] class_takes.f []
def class_Chunks.f (k : Nat) (a0 : Int) : Option Int := ((class_Right.f k a0).bind fun y0 => (if (!y0) = false then ((class_Of.f k a0).bind fun y1 => (if decide (y1 ≥ 0) = true then (some (0)) else ((class_takes.f k a0).bind fun y2 => (some (i64.wrap ((i64.wrap (i64.wrap (y2 + 32) - 1)).tdiv 32)))))) else (some (0))))
def class_Chunks.o : FnOk T Tryz.prog := mkO (tab_ok gl0) 103 Tryz.func103 [class_Right.o gl0, class_Of.o, class_takes.o gl0] [] [tc qI] [] (tc qI) [] class_Chunks.f []
def class_Room.f (k : Nat) (a0 : Int) : Option Int := ((class_Of.f k a0).bind fun y0 => ((class_Block.f k y0).bind fun y1 => ((class_Chunks.f k a0).bind fun y2 => (some (i64.wrap (y1 + i64.wrap (y2 * 32)))))))
def class_Room.o : FnOk T Tryz.prog := mkO (tab_ok gl0) 75 Tryz.func75 [class_Block.o, class_Of.o, class_Chunks.o] [] [tc qI] [] (tc qI) [] class_Room.f []
def sound_pool_header.f (k : Nat) (a0_0 : List Int) (a0_1 a0_2 a1_0 a1_1 a1_2 : Int) : Option (Int × Int × Int × Bool) := ((sound_Place.f k a0_1 a0_2 a1_0 a1_1 a1_2).bind fun y0 => (if 0 ≤ y0 then (if y0 ≤ (a0_0.length : Int) then (if (a0_0.length : Int) ≤ (a0_0.length : Int) then ((oid_Decode.f k (List.drop y0.toNat (List.take (a0_0.length : Int).toNat a0_0))).bind fun y1 => (if y1.snd.snd.snd = true then ((class_Room.f k y1.snd.fst).bind fun y2 => (some (y1.fst, y1.snd.fst, y1.snd.snd.fst, y2 == a1_2))) else (some (y1.fst, y1.snd.fst, y1.snd.snd.fst, false)))) else none) else none) else none))
def sound_pool_header.o : FnOk T Tryz.prog := mkO (tab_ok gl0) 40 Tryz.func40 [oid_Decode.o gl0, sound_Place.o gl0, class_Room.o] [] [ta [(qf 33), qI, qI], ta [qI, qI, qI]] [] (.tup [.agg [qI, qI, qU], .cell qB]) [] sound_pool_header.f []
end Go.Proofs.YtbbpcbjgekencaaGreatDoor.FT
end
section
set_option linter.unusedVariables false
set_option linter.unusedSimpArgs false
set_option linter.unusedVariables false
set_option linter.unusedSimpArgs false
namespace Go.Proofs.YtbbpcbjgekencaaGreatDoor.H
open Go Go.RowKit Go.Proofs.YtbbpcbjgekencaaGreatDoorW.PrintWords Go.Proofs.YtbbpcbjgekencaaGreatDoorW.PrintLast Go.Proofs.YtbbpcbjgekencaaGreatDoorW.PrintMore Go.Proofs.YtbbpcbjgekencaaGreatDoor.Q
attribute [local go_sem] max2_int min2_int max_two min_two max_three min_three max_four min_four
theorem und_bool_ : Tryz.prog.underlying 4 = some .bool := by kernel_rfl
theorem und_u64_ : Tryz.prog.underlying 33 = some (.int .u64) := by kernel_rfl
theorem keyed_u64 : Go.Maps.Keyed Tryz.prog 33 := Go.Maps.int_keyed und_u64_
theorem und_map_ : Tryz.prog.underlying 143 = some (.map 33 4) := by kernel_rfl
theorem zero_bool (w : World) : (zeroValue 4).run Tryz.prog w = .ok (.bool false) w := by kernel_rfl
noncomputable def SeenM (W : World) (B : Nat) (S : List Int) : Prop := ∃ (n : Nat) (D : DataW Unit), n ≤ S.length ∧ W.ownsMap Tryz.prog 33 (plainElem Tryz.prog 4) B n D ∧ Go.Maps.IsMap D ∧ ∀ x, (Lit.int .u64 x).wf = true → D.atKey (.int .u64 x) (.lit (.bool false)) = .lit (.bool (decide (x ∈ S)))
theorem seen_made (w : World) : SeenM (w.alloc (.map #[] 0)) w.heap.size [] :=
 ⟨0, .map [], Nat.le_refl _, World.ownsMap_made _ _ _ _, Go.Maps.isMap_empty, fun x _ => by rw [Go.Maps.atKey_of_not_has (by rfl)]; simp⟩
theorem SeenM.kept {W W' : World} {B : Nat} {S : List Int} {row : Option Nat} (h : SeenM W B S) (hg : W.grownBy W' row) (hne : some B ≠ row) : SeenM W' B S := by
 obtain ⟨n, D, h1, h2, h3⟩ := h
 exact ⟨n, D, h1, h2.kept hg hne, h3⟩
theorem SeenM.below {W W' : World} {B : Nat} {S : List Int} (h : SeenM W B S) (hb : Below W.heap.size W W') : SeenM W' B S := h.kept (grown_of_below hb none) (by simp)
theorem plainElem_bool_inv {v : Value} {b : Bool} {ps : List MemPlace} (h : plainElem (H := Unit) Tryz.prog 4 v = some (.lit (.bool b), ps)) : v = .bool b := by
 unfold plainElem at h
 rw [und_bool_] at h
 cases v <;> simp at h
 rw [h.1]
theorem SeenM.look {W : World} {B : Nat} {S : List Int} (h : SeenM W B S) (x : Int) (hx : (Lit.int .u64 x).wf = true) :
  (Instr.lookup 143 (.map (some B)) (.int .u64 x) false).run Tryz.prog W = .ok (.bool (decide (x ∈ S))) W := by
 obtain ⟨n, D, h1, h2, h3, h4⟩ := h
 obtain ⟨v, ps, hrun, hv⟩ := h2.lookup keyed_u64 und_map_ (zero_bool W) (plainElem_bool und_bool_ false) (Go.Maps.keyOf_int_mk und_u64_ hx)
 rw [h4 x hx] at hv
 rw [hrun, plainElem_bool_inv hv]
theorem seen_put {W : World} {B n : Nat} {D : DataW Unit} {S : List Int} {x : Int} (hx : (Lit.int .u64 x).wf = true) (hn : n ≤ S.length) (hm : Go.Maps.IsMap D) (h4 : ∀ x, (Lit.int .u64 x).wf = true → D.atKey (.int .u64 x) (.lit (.bool false)) = .lit (.bool (decide (x ∈ S))))
  (ho : W.ownsMap Tryz.prog 33 (plainElem Tryz.prog 4) B (n + 1) (D.put (.int .u64 x) (.lit (.bool true)))) : SeenM W B (S ++ [x]) := by
 refine ⟨n + 1, _, by simp; omega, ho, hm.put _ _, fun y hy => ?_⟩
 by_cases e : y = x
 ·subst e
  rw [Go.Maps.atKey_put_same hm (show Go.WideAt.IsKeyLit (.int .u64 y) from trivial)]
  simp
 ·rw [Go.Maps.atKey_put_other (by intro h; injection h with _ h; exact e h), h4 y hy]
  simp [e]
end Go.Proofs.YtbbpcbjgekencaaGreatDoor.H
end
section
set_option linter.unusedVariables false
set_option linter.unusedSimpArgs false
set_option linter.unusedVariables false
set_option linter.unusedSimpArgs false
set_option maxRecDepth 100000
namespace Go.Proofs.YtbbpcbjgekencaaGreatDoor.H
open Go Go.RowKit Go.Proofs.YtbbpcbjgekencaaGreatDoorW.PrintWords Go.Proofs.YtbbpcbjgekencaaGreatDoor Go.Proofs.YtbbpcbjgekencaaGreatDoor.Q
noncomputable def sound_pool_header.f (l0_0 : List Int) (a0_1 : Int) (a0_2 : Int) (a1_0 : Int) (a1_1 : Int) (a1_2 : Int) : Option (Int × Int × Int × Bool) := FT.sound_pool_header.f 100 l0_0 a0_1 a0_2 a1_0 a1_1 a1_2
theorem sound_pool_header.calls (A0_0 : Option Addr) (c0_0 : Nat) (l0_0 : List Int) (a0_1 : Int) (a0_2 : Int) (a1_0 : Int) (a1_1 : Int) (a1_2 : Int) (r1 : Int) (r2 : Int) (r3 : Int) (r4 : Bool) (w : World) (hr0_0 : Kd.C (Kd.int .u64) w A0_0 l0_0.length l0_0) (hc0_0 : l0_0.length ≤ c0_0) (h : sound_pool_header.f l0_0 a0_1 a0_2 a1_0 a1_1 a1_2 = some (r1, r2, r3, r4)) :
  CallsG 40 #[.agg #[.slice A0_0 l0_0.length c0_0, .int .i64 a0_1, .int .i64 a0_2], .agg #[.int .i64 a1_0, .int .i64 a1_1, .int .i64 a1_2]] w fun e w' => e = .returned (.tuple #[.agg #[.int .i64 r1, .int .i64 r2, .int .u64 r3], .bool r4]) ∧ Below w.heap.size w w' := by
 intro hG
 unfold sound_pool_header.f at h
 have hq := h
 refine (Ev.ok_calls (FT.sound_pool_header.o).ok (k := 100) (ats := [.sl 33 l0_0, .int a0_1, .int a0_2, .int a1_0, .int a1_1, .int a1_2]) hq (xs := [.t (.agg [.sl .far 33 l0_0, .c (.int .i64 a0_1), .c (.int .i64 a0_2)]), .t (.agg [.c (.int .i64 a1_0), .c (.int .i64 a1_1), .c (.int .i64 a1_2)])]) rfl rfl (vals := #[.agg #[.slice A0_0 l0_0.length c0_0, .int .i64 a0_1, .int .i64 a0_2], .agg #[.int .i64 a1_0, .int .i64 a1_1, .int .i64 a1_2]]) (.cons (.t (.agg (Ev.concL_cons (Ev.conc_of_C (Ev.tab_ok Ev.gl0) (e := 33) (Kd.int .u64) rfl hr0_0 hc0_0 (of_decide_eq_true (by kernel_rfl)) (Ev.k1_33 fun q hq => Ev.any_far hq) fun q hq => Ev.any_far hq) (Ev.concL_cons (.c _) (Ev.concL_cons (.c _) Ev.concL_nil))))) (.cons (.t (.agg (Ev.concL_cons (.c _) (Ev.concL_cons (.c _) (Ev.concL_cons (.c _) Ev.concL_nil))))) .nil)) (of_gl hG)).mono ?_
 rintro e w' ⟨x, E', rfl, hL⟩
 rw [Ev.left_value hL rfl]
 exact ⟨rfl, Ev.left_below hL⟩
end Go.Proofs.YtbbpcbjgekencaaGreatDoor.H
end
section
set_option linter.unusedVariables false
set_option linter.unusedSimpArgs false
set_option linter.unusedVariables false
set_option linter.unusedSimpArgs false
set_option maxRecDepth 100000
namespace Go.Proofs.YtbbpcbjgekencaaGreatDoor.H
open Go Go.RowKit Go.Proofs.YtbbpcbjgekencaaGreatDoorW.PrintWords Go.Proofs.YtbbpcbjgekencaaGreatDoor Go.Proofs.YtbbpcbjgekencaaGreatDoor.Q
noncomputable def sound_pool_table.f (l0_0 : List Int) (a0_1 : Int) (a0_2 : Int) : Option (List Int) := (FT.sound_pool_table.f 100 l0_0 a0_1 a0_2).bind fun q => if q.length ≤ 9223372036854775807 then some q else none
theorem sound_pool_table.calls (P0_0 : Nat → Prop) (A0_0 : Option Addr) (c0_0 : Nat) (l0_0 : List Int) (a0_1 : Int) (a0_2 : Int) (r : List Int) (w : World) (hs0_0 : Kd.V (Kd.int .u64) 33 w w.heap.size (fun k_ => P0_0 k_) (.slice A0_0 l0_0.length c0_0) l0_0) (h : sound_pool_table.f l0_0 a0_1 a0_2 = some r) :
  Calls Tryz.prog 39 #[.agg #[.slice A0_0 l0_0.length c0_0, .int .i64 a0_1, .int .i64 a0_2]] w fun e w' => ∃ v0_ : Value, e = .returned (v0_) ∧ Kd.V (Kd.int .u64) 33 w' w.heap.size (fun k_ => (P0_0 k_ ∨ w.heap.size ≤ k_)) v0_ r ∧ Below w.heap.size w w' := by
 unfold sound_pool_table.f at h
 obtain ⟨q, hq, he⟩ := Option.bind_eq_some_iff.mp h
 split at he
 case isFalse => cases he
 rename_i hlen
 cases he
 refine (Ev.ok_callsV (A := fun k_ => P0_0 k_) (FT.sound_pool_table.o []).ok (k := 100) (ats := [.sl 33 l0_0, .int a0_1, .int a0_2]) hq (xs := [.t (.agg [.sl .far 33 l0_0, .c (.int .i64 a0_1), .c (.int .i64 a0_2)])]) rfl rfl (vals := #[.agg #[.slice A0_0 l0_0.length c0_0, .int .i64 a0_1, .int .i64 a0_2]]) (.cons (.t (.agg (Ev.concL_cons ((Ev.fl33 []).conc_V (Ev.tab_ok []) hs0_0 fun q hq ha => Ev.anyV_far hq ha) (Ev.concL_cons (.c _) (Ev.concL_cons (.c _) Ev.concL_nil))))) .nil) (fun x hx => by cases hx)).mono ?_
 rintro e w' ⟨x, E', rfl, hL⟩
 exact ⟨_, rfl, (Ev.fl33 []).V_in (Ev.tab_ok []) (Ev.concA_cell hL.val) hlen (fun q hq => hq.2.2.elim (fun h => .inr (h.resolve_right Ev.own_none)) .inl), Ev.left_belowV hL⟩
end Go.Proofs.YtbbpcbjgekencaaGreatDoor.H
end
section
set_option linter.unusedVariables false
set_option linter.unusedSimpArgs false
set_option linter.unusedVariables false
set_option linter.unusedSimpArgs false
namespace Go.Proofs.YtbbpcbjgekencaaGreatDoor.H
open Go Go.RowKit Go.Proofs.YtbbpcbjgekencaaGreatDoorW.PrintWords Go.Proofs.YtbbpcbjgekencaaGreatDoorW.PrintLast Go.Proofs.YtbbpcbjgekencaaGreatDoorW.PrintMore Go.Proofs.YtbbpcbjgekencaaGreatDoor.Q
attribute [local go_sem] max2_int min2_int max_two min_two max_three min_three max_four min_four
noncomputable def objGo (l0 : List Int) (a b ep : Int) : List Int → List S61 → Option Bool
 | _, [] => some (decide (ep ≤ 4294967295))
 | S, x :: xs => (sound_pool_header.f l0 a b x.f0 x.f1 x.f2).bind fun h => if h.2.2.2 = false then some false else
   if (Lit.int .u64 h.2.2.1).wf = true then (if h.2.2.1 ∈ S then some false else if h.2.2.1 / 4294967296 > ep then some false else objGo l0 a b ep (S ++ [h.2.2.1]) xs) else none
noncomputable def sound_pool_objects.f (k : Nat) (l0_0 : List Int) (a0_1 a0_2 : Int) : Option Bool :=
 if 9 < (l0_0.length : Int) then (sound_pool_table.f l0_0 a0_1 a0_2).bind fun t => (tile_Blocks.f k t).bind fun bs => if bs.length ≤ 1000000 then objGo l0_0 a0_1 a0_2 (rd l0_0 9) [] bs else none else none
set_option maxRecDepth 100000 in
set_option maxHeartbeats 8000000 in
theorem sound_pool_objects.calls (k : Nat) (A0_0 : Option Addr) (c0_0 : Nat) (l0_0 : List Int) (a0_1 a0_2 : Int) (r : Bool) (w : World) (hr0_0 : Kd.C (Kd.int .u64) w A0_0 l0_0.length l0_0) (hc0_0 : l0_0.length ≤ c0_0)
    (h : sound_pool_objects.f k l0_0 a0_1 a0_2 = some r) :
    CallsG 65 #[.agg #[.slice A0_0 l0_0.length c0_0, .int .i64 a0_1, .int .i64 a0_2]] w fun e w' => e = .returned (.bool r) ∧ Below w.heap.size w w' := by
  intro hG
  have HG := Lib.hid hG
  clear hG
  unfold sound_pool_objects.f at h
  by_cases h9 : 9 < (l0_0.length : Int)
  · rw [if_pos h9] at h
    obtain ⟨t, ht, h⟩ := Option.bind_eq_some_iff.1 h
    obtain ⟨bs, hbs, h⟩ := Option.bind_eq_some_iff.1 h
    by_cases hbl : bs.length ≤ 1000000
    · rw [if_pos hbl] at h
      have HF := Lib.hid h
      have HT := Lib.hid (fun W (hb : Below w.heap.size w W) => sound_pool_table.calls (fun k => k < W.heap.size) A0_0 c0_0 l0_0 a0_1 a0_2 t W (Kd.V_mk hc0_0 (Kd.C_F (Kd.heap_int .u64) (Kd.C_below hr0_0 hb))) ht)
      have HBK := Lib.hid (fun (A : Option Addr) (c : Nat) (W : World) (hC : Kd.C (Kd.int .u64) W A t.length t) (hc : t.length ≤ c) (hG : Gl W) => tile_Blocks.calls k A c t bs W hC hc hbs hG)
      have HR := Lib.hid hr0_0
      have HC := Lib.hid hc0_0
      obtain ⟨ad, e0, hx90⟩ := Kd.at_int hr0_0 9 (by omega) h9
      subst e0
      have hx9 : w.cell? (ad.add 9) = some (.int .u64 (rd l0_0 9)) := hx90
      obtain ⟨ep, hep⟩ : ∃ ep, rd l0_0 9 = ep := ⟨_, rfl⟩
      rw [hep] at hx9
      have HEP := Lib.hid hep
      have h9n : 9 < l0_0.length := by omega
      have HX9 := Lib.hid hx9
      have hmm := @run_makeMap Tryz.prog
      clear h hr0_0 hc0_0 ht hbs hx90 hep hx9
      go_enter Tryz.func65, Tryz.ntmps65
      have hx9 : (w.alloc (.cells #[.slice (some ad) l0_0.length c0_0, .int .i64 a0_1, .int .i64 a0_2] 73)).cell? ⟨ad.block, ad.off + 9, none⟩ = some (.int .u64 ep) := by
        have h0 := pw_cell_below ((Below.refl w.heap.size w).alloc (Nat.le_refl _) (.cells #[.slice (some ad) l0_0.length c0_0, .int .i64 a0_1, .int .i64 a0_2] 73)) HX9.out
        simpa [Addr.add] using h0
      go_wp2_with (first
        | (go_at_call 39; refine (HT.out _ ?hbt).mono ?_; (case hbt => exact ((Below.refl w.heap.size w).alloc (Nat.le_refl _) _).alloc (by simp) _); rintro e w1 ⟨v, rfl, hV, hb1⟩; obtain ⟨A1, c1, rfl⟩ := Kd.V_slice hV; have hC1 := (Kd.V_reads' hV).2; have HC1 := Lib.hid hC1; have HB1 := Lib.hid hb1; clear hV hC1 hb1)
        | (go_at_call 38; refine (HBK.out _ _ _ ?hc1 ?hc2 ?hg).mono ?_; (case hc1 => exact HC1.out.2); (case hc2 => exact HC1.out.1); (case hg => exact HG.out.below (below_step (((Below.refl w.heap.size w).alloc (Nat.le_refl _) _).alloc (by simp) _) HB1.out)); rintro e w2 ⟨v, rfl, hRR, hb2⟩; obtain ⟨A2, c2, rfl⟩ := Kd.R_slice hRR; have HRR := Lib.hid hRR; have HB2 := Lib.hid hb2; clear hRR hb2))
      have hpool := blk_below (blk_below (blk_alloc (blk_new w (.cells #[.slice (some ad) l0_0.length c0_0, .int .i64 a0_1, .int .i64 a0_2] 73)) (.map #[] 0)) HB1.out) HB2.out
      have hseen := ((seen_made (w.alloc (.cells #[.slice (some ad) l0_0.length c0_0, .int .i64 a0_1, .int .i64 a0_2] 73))).below HB1.out).below HB2.out
      have hbw := below_step (below_step (((Below.refl w.heap.size w).alloc (Nat.le_refl _) (.cells #[.slice (some ad) l0_0.length c0_0, .int .i64 a0_1, .int .i64 a0_2] 73)).alloc (by simp) (.map #[] 0)) HB1.out) HB2.out
      have hF0 := Kd.R_F (Kd.R_bound HRR.out)
      rw [World.size_alloc] at hseen
      have hsz := HB1.out.size
      simp only [World.size_alloc] at hsz
      obtain ⟨B, hB⟩ : ∃ B, w.heap.size = B := ⟨_, rfl⟩
      rw [hB] at hpool hseen hsz
      have hF : Kd.F k61 w2 (fun k => B + 1 < k) A2 bs.length bs := Kd.F_mono hF0 (fun k hk => by have := hk.2.1; omega)
      have HB := Lib.hid hB
      simp only [hB]
      have hep0 := HEP.out
      rw [hep0] at HF
      clear hF0 hsz hB hx9 hmm hep0
      go_loopw [18] (fun v wr => ∃ (i : Nat) (S : List Int), i ≤ bs.length ∧ v = .int .i64 (i : Int) ∧ wr.heap[B]? = some (.cells #[.slice (some ad) l0_0.length c0_0, .int .i64 a0_1, .int .i64 a0_2] 73 (0, 0)) ∧ Kd.F k61 wr (fun k => B + 1 < k) A2 bs.length bs ∧ SeenM wr (B + 1) S ∧ Below w.heap.size w wr ∧ S.length ≤ i ∧ Hid (objGo l0_0 a0_1 a0_2 ep S (bs.drop i) = some r)) (fun v _ => bs.length - (intOf v).toNat)
      case atStart => exact ⟨0, [], Nat.zero_le _, rfl, hpool, hF, hseen, hbw, Nat.zero_le _, HF⟩
      case round =>
        obtain ⟨i, S, hi, rfl, hp, hFr, hS, hbr, hSl, HGo⟩ := hrel
        by_cases hlt : i < bs.length
        · obtain ⟨ad2, e2, hc0, hc1, hc2⟩ := at_T61 (Kd.F_now hFr) (i : Int) (by omega) (by omega)
          subst e2
          have hx : rd_T61 bs (i : Int) = bs[i] := by simp [rd_T61, hlt]
          rw [hx] at hc0 hc1 hc2
          have hgo := HGo.out
          rw [List.drop_eq_getElem_cons hlt, objGo] at hgo
          obtain ⟨x0, hx0⟩ : ∃ x0, bs[i].f0 = x0 := ⟨_, rfl⟩
          obtain ⟨x1, hx1⟩ : ∃ x1, bs[i].f1 = x1 := ⟨_, rfl⟩
          obtain ⟨x2, hx2⟩ : ∃ x2, bs[i].f2 = x2 := ⟨_, rfl⟩
          rw [hx0] at hc0 hgo
          rw [hx1] at hc1 hgo
          rw [hx2] at hc2 hgo
          rw [Int.toNat_natCast] at hc0 hc1 hc2
          obtain ⟨⟨q1, q2, q3, q4⟩, hq, hgo⟩ := Option.bind_eq_some_iff.1 hgo
          have HH := Lib.hid (fun W (hb : Below w.heap.size w W) => sound_pool_header.calls (some ad) c0_0 l0_0 a0_1 a0_2 x0 x1 x2 q1 q2 q3 q4 W (Kd.C_below HR.out hb) HC.out hq (HG.out.below hb))
          have HP := Lib.hid hp
          have HFr := Lib.hid hFr
          have HS := Lib.hid hS
          have HBR := Lib.hid hbr
          have hpa := blk_alloc hp (.cells #[.int .i64 x0, .int .i64 x1, .int .i64 x2] 61)
          have hp0 := (blk_cell hpa 0).trans (show _ = some (Value.slice (some ad) l0_0.length c0_0) from rfl)
          have hp1 := (blk_cell hpa 1).trans (show _ = some (Value.int .i64 a0_1) from rfl)
          have hp2 := (blk_cell hpa 2).trans (show _ = some (Value.int .i64 a0_2) from rfl)
          clear hx hx0 hx1 hx2 hq hpa hp hFr hS hbr HGo hpool hseen hbw hF
          cases q4 with
          | false =>
            simp only [if_true] at hgo
            cases hgo
            go_wp2_with (first
              | (go_at_call 40; refine (HH.out _ ?hbh).mono ?_; (case hbh => exact HBR.out.alloc HBR.out.size _); rintro e w3 ⟨rfl, hb3⟩; have HB3 := Lib.hid hb3; clear hb3))
            go_ret
            have hb9 := below_step (HBR.out.alloc HBR.out.size (.cells #[.int .i64 x0, .int .i64 x1, .int .i64 x2] 61)) HB3.out
            exact ⟨rfl, hb9.alloc hb9.size _⟩
          | true =>
            simp only [Bool.true_eq_false, if_false] at hgo
            by_cases hwf : (Lit.int .u64 q3).wf = true
            · rw [if_pos hwf] at hgo
              have hqr : 0 ≤ q3 ∧ q3 ≤ 18446744073709551615 := by
                have h1 : IntKind.u64.min = 0 := by decide
                have h2 : IntKind.u64.max = 18446744073709551615 := by decide
                simp only [Lit.wf, Bool.and_eq_true, decide_eq_true_eq] at hwf
                omega
              have hq0 := hqr.1
              clear hqr
              by_cases hin : q3 ∈ S
              · rw [if_pos hin] at hgo
                cases hgo
                have hdi : decide (q3 ∈ S) = true := decide_eq_true hin
                clear hin
                go_wp2_with (first
                  | (go_at_call 40; refine (HH.out _ ?hbh).mono ?_; (case hbh => exact HBR.out.alloc HBR.out.size _); rintro e w3 ⟨rfl, hb3⟩; have HB3 := Lib.hid hb3; clear hb3; have hS3 := ((HS.out.below ((Below.refl _ _).alloc (Nat.le_refl _) (.cells #[.int .i64 x0, .int .i64 x1, .int .i64 x2] 61))).below HB3.out).below ((Below.refl _ _).alloc (Nat.le_refl _) (.cells #[.int .i64 q1, .int .i64 q2, .int .u64 q3] 71)); have hlk := hS3.look q3 hwf; have HS3 := Lib.hid hS3; clear hS3))
                go_ret
                have hb9 := below_step (HBR.out.alloc HBR.out.size (.cells #[.int .i64 x0, .int .i64 x1, .int .i64 x2] 61)) HB3.out
                exact ⟨rfl, hb9.alloc hb9.size _⟩
              · rw [if_neg hin] at hgo
                have hdi : decide (q3 ∈ S) = false := decide_eq_false hin
                clear hin
                by_cases hgt : q3 / 4294967296 > ep
                · rw [if_pos hgt] at hgo
                  cases hgo
                  have hgd : ep < q3 / 4294967296 := hgt
                  clear hgt
                  go_wp2_with (first
                    | (go_at_call 40; refine (HH.out _ ?hbh).mono ?_; (case hbh => exact HBR.out.alloc HBR.out.size _); rintro e w3 ⟨rfl, hb3⟩; have HB3 := Lib.hid hb3; clear hb3; have hS3 := ((HS.out.below ((Below.refl _ _).alloc (Nat.le_refl _) (.cells #[.int .i64 x0, .int .i64 x1, .int .i64 x2] 61))).below HB3.out).below ((Below.refl _ _).alloc (Nat.le_refl _) (.cells #[.int .i64 q1, .int .i64 q2, .int .u64 q3] 71)); have hlk := hS3.look q3 hwf; have HS3 := Lib.hid hS3; clear hS3))
                  go_ret
                  have hb9 := below_step (HBR.out.alloc HBR.out.size (.cells #[.int .i64 x0, .int .i64 x1, .int .i64 x2] 61)) HB3.out
                  exact ⟨rfl, hb9.alloc hb9.size _⟩
                · rw [if_neg hgt] at hgo
                  have hgd : decide (ep < q3 / 4294967296) = false := decide_eq_false hgt
                  clear hgt
                  have HGO2 := Lib.hid hgo
                  clear hgo
                  go_wp2_with (first
                    | (go_at_call 40; refine (HH.out _ ?hbh).mono ?_; (case hbh => exact HBR.out.alloc HBR.out.size _); rintro e w3 ⟨rfl, hb3⟩; have HB3 := Lib.hid hb3; clear hb3; have hS3 := ((HS.out.below ((Below.refl _ _).alloc (Nat.le_refl _) (.cells #[.int .i64 x0, .int .i64 x1, .int .i64 x2] 61))).below HB3.out).below ((Below.refl _ _).alloc (Nat.le_refl _) (.cells #[.int .i64 q1, .int .i64 q2, .int .u64 q3] 71)); have hlk := hS3.look q3 hwf; have HS3 := Lib.hid hS3; clear hS3)
                    | (at_mapUpdate
                       obtain ⟨n0, D0, hn0, hown0, hm0, hat0⟩ := HS3.out
                       have HM0 := Lib.hid hm0
                       have HAT0 := Lib.hid hat0
                       have HN0 := Lib.hid hn0
                       refine wpList_mapUpdate_own _ rfl (.tmp 43) (.tmp 45) (.const (.bool true)) 143 rfl 33 4 keyed_u64 und_map_ _ (B + 1) n0 D0 rfl hown0 (by unfold maxLen; omega) _ _ (.int .u64 q3) rfl rfl (Go.Maps.keyOf_int_mk und_u64_ hwf) (.lit (.bool true)) [] (plainElem_bool und_bool_ true) ?_
                       intro w5 hown5 hgrow5
                       have HO5 := Lib.hid (seen_put hwf HN0.out HM0.out HAT0.out hown5)
                       have HG5 := Lib.hid hgrow5
                       clear hown5 hgrow5 hown0 hm0 hat0 hn0))
                  have hb9 := below_step (HBR.out.alloc HBR.out.size (.cells #[.int .i64 x0, .int .i64 x1, .int .i64 x2] 61)) HB3.out
                  have hb10 := hb9.alloc hb9.size (.cells #[.int .i64 q1, .int .i64 q2, .int .u64 q3] 71)
                  have hBle : w.heap.size ≤ B + 1 := by have := HB.out; omega
                  have hp5 := blk_grown (blk_alloc (blk_below (blk_alloc HP.out (.cells #[.int .i64 x0, .int .i64 x1, .int .i64 x2] 61)) HB3.out) (.cells #[.int .i64 q1, .int .i64 q2, .int .u64 q3] 71)) HG5.out (by simp)
                  have hF5 := Kd.F_grown (Kd.F_alloc (Kd.F_below (Kd.F_alloc HFr.out (.cells #[.int .i64 x0, .int .i64 x1, .int .i64 x2] 61)) HB3.out) (.cells #[.int .i64 q1, .int .i64 q2, .int .u64 q3] 71)) HG5.out (fun k hk => by intro e; injection e with e; omega)
                  go_roundw
                  case rel => exact ⟨i + 1, S ++ [q3], by omega, by go_num, hp5, hF5, HO5.out, hb10.grown HG5.out hb10.size (fun k hk => by injection hk with hk; omega), by rw [List.length_append]; simp; omega, HGO2⟩
                  case measure => simp [intOf]; omega
            · rw [if_neg hwf] at hgo; cases hgo
        · obtain rfl : i = bs.length := by omega
          have hgo := HGo.out
          rw [List.drop_length, objGo] at hgo
          cases hgo
          go_wp2_with fail
          go_ret
          exact ⟨by rfl, hbr⟩
    · rw [if_neg hbl] at h; cases h
  · rw [if_neg h9] at h; cases h
end Go.Proofs.YtbbpcbjgekencaaGreatDoor.H
end
section
set_option linter.unusedVariables false
set_option linter.unusedSimpArgs false
set_option linter.unusedVariables false
set_option linter.unusedSimpArgs false
namespace Go.Proofs.YtbbpcbjgekencaaGreatDoor.H
open Go Go.RowKit Go.Proofs.YtbbpcbjgekencaaGreatDoorW.PrintWords Go.Proofs.YtbbpcbjgekencaaGreatDoorW.PrintLast Go.Proofs.YtbbpcbjgekencaaGreatDoorW.PrintMore Go.Proofs.YtbbpcbjgekencaaGreatDoor.Q
attribute [local go_sem] max2_int min2_int max_two min_two max_three min_three max_four min_four
noncomputable def cStep (r : Nat) : Nat := r / 2 ^^^ (if r % 2 = 1 then 3988292384 else 0)
noncomputable def cTurn : Nat → Nat → Nat
 | 0, r => r
 | n + 1, r => cTurn n (cStep r)
theorem xor_mod2 (x y : Nat) : (x ^^^ y) % 2 = (x % 2 + y % 2) % 2 := by
 have h := Nat.xor_mod_two_pow (a := x) (b := y) (n := 1)
 simp only [Nat.pow_one] at h
 rw [h]
 rcases Nat.mod_two_eq_zero_or_one x with h1 | h1 <;> rcases Nat.mod_two_eq_zero_or_one y with h2 | h2 <;> rw [h1, h2] <;> rfl
theorem xor_div2 (x y : Nat) : (x ^^^ y) / 2 = x / 2 ^^^ y / 2 := by
 have h := Nat.xor_div_two_pow (a := x) (b := y) (n := 1)
 simpa using h
theorem cStep_xor (x y : Nat) : cStep (x ^^^ y) = cStep x ^^^ cStep y := by
 unfold cStep
 rw [xor_mod2, xor_div2]
 rcases Nat.mod_two_eq_zero_or_one x with h1 | h1 <;> rcases Nat.mod_two_eq_zero_or_one y with h2 | h2 <;> rw [h1, h2] <;> simp only [Nat.reduceAdd, Nat.reduceMod, if_true, if_false, Nat.xor_zero, reduceIte, Nat.zero_ne_one]
 ·rw [Nat.xor_assoc]
 ·rw [Nat.xor_assoc, Nat.xor_assoc]; congr 1; rw [Nat.xor_comm]
 ·rw [show ∀ a b c : Nat, a ^^^ c ^^^ (b ^^^ c) = (a ^^^ b) ^^^ (c ^^^ c) from fun a b c => by rw [Nat.xor_assoc, Nat.xor_assoc]; congr 1; rw [← Nat.xor_assoc, Nat.xor_comm c b, Nat.xor_assoc], Nat.xor_self, Nat.xor_zero]
theorem cTurn_xor (n : Nat) : ∀ x y, cTurn n (x ^^^ y) = cTurn n x ^^^ cTurn n y := by
 induction n with
 | zero => intro x y; rfl
 | succ n ih => intro x y; simp only [cTurn]; rw [cStep_xor, ih]
theorem cTurn_shift (n : Nat) : ∀ h, cTurn n (2 ^ n * h) = h := by
 induction n with
 | zero => intro h; simp [cTurn]
 | succ n ih =>
  intro h
  simp only [cTurn]
  have e : cStep (2 ^ (n + 1) * h) = 2 ^ n * h := by
   unfold cStep
   rw [Nat.pow_succ, Nat.mul_comm (2 ^ n) 2, Nat.mul_assoc, if_neg (by omega), Nat.xor_zero, Nat.mul_div_cancel_left _ (by decide)]
  rw [e, ih]
theorem split_xor (n x : Nat) : 2 ^ n * (x / 2 ^ n) ^^^ x % 2 ^ n = x := by
 apply Nat.eq_of_testBit_eq
 intro i
 rw [Nat.testBit_xor, Nat.testBit_two_pow_mul, Nat.testBit_mod_two_pow, Nat.testBit_div_two_pow]
 by_cases h : i < n
 ·simp [h, Nat.not_le.2 h]
 ·have : n ≤ i := Nat.le_of_not_lt h
  simp [h, this]
theorem cTurn_split (n x : Nat) : cTurn n x = x / 2 ^ n ^^^ cTurn n (x % 2 ^ n) := by
 conv => lhs; rw [← split_xor n x]
 rw [cTurn_xor, cTurn_shift]
noncomputable def onN : Nat → Nat → Nat → Nat
 | 0, r, _ => r
 | n + 1, r, w => onN n (r / 2 ^^^ (if r % 2 = w % 2 then 0 else 3988292384)) (w / 2)
theorem onN_eq (n : Nat) : ∀ r w, onN n r w = cTurn n (r ^^^ w % 2 ^ n) := by
 induction n with
 | zero => intro r w; simp [onN, cTurn, Nat.mod_one]
 | succ n ih =>
  intro r w
  simp only [onN, cTurn]
  rw [ih]
  congr 1
  unfold cStep
  have h1 : w % 2 ^ (n + 1) / 2 = w / 2 % 2 ^ n := by
   rw [Nat.pow_succ, Nat.mul_comm, Nat.mod_mul_right_div_self]
  have h2 : w % 2 ^ (n + 1) % 2 = w % 2 := Nat.mod_mod_of_dvd _ ⟨2 ^ n, by rw [Nat.pow_succ, Nat.mul_comm]⟩
  rw [xor_mod2, xor_div2, h1, h2, Nat.xor_assoc, Nat.xor_assoc]
  congr 1
  rw [Nat.xor_comm]
  congr 1
  rcases Nat.mod_two_eq_zero_or_one r with h3 | h3 <;> rcases Nat.mod_two_eq_zero_or_one w with h4 | h4 <;> rw [h3, h4] <;> rfl
noncomputable def cByte (r w : Nat) : Nat := r / 256 ^^^ cTurn 8 ((r ^^^ w) % 256)
theorem cByte_eq (r w : Nat) : cByte r w = onN 8 r w := by
 rw [onN_eq, cTurn_split 8, cByte]
 have h1 : (r ^^^ w % 2 ^ 8) / 2 ^ 8 = r / 256 := by
  rw [Nat.xor_div_two_pow, Nat.div_eq_of_lt (Nat.mod_lt w (by decide : 0 < 2 ^ 8)), Nat.xor_zero]
 have h2 : (r ^^^ w % 2 ^ 8) % 2 ^ 8 = (r ^^^ w) % 256 := by
  rw [Nat.xor_mod_two_pow, Nat.mod_mod, ← Nat.xor_mod_two_pow]
 rw [h1, h2]
theorem onN_add (m : Nat) : ∀ n r w, onN (m + n) r w = onN n (onN m r w) (w / 2 ^ m) := by
 induction m with
 | zero => intro n r w; simp [onN]
 | succ m ih =>
  intro n r w
  rw [Nat.succ_add]
  simp only [onN]
  rw [ih, Nat.div_div_eq_div_mul, Nat.pow_succ, Nat.mul_comm 2]
noncomputable def cBytes : Nat → Nat → Nat → Nat
 | 0, r, _ => r
 | n + 1, r, w => cBytes n (cByte r w) (w / 256)
theorem cBytes_eq (n : Nat) : ∀ r w, cBytes n r w = onN (8 * n) r w := by
 induction n with
 | zero => intro r w; rfl
 | succ n ih =>
  intro r w
  rw [show 8 * (n + 1) = 8 + 8 * n by omega, onN_add]
  simp only [cBytes]
  rw [ih, cByte_eq]
theorem onN_lt (n : Nat) : ∀ r w, r < 2 ^ 32 → onN n r w < 2 ^ 32 := by
 induction n with
 | zero => intro r w h; exact h
 | succ n ih =>
  intro r w h
  simp only [onN]
  refine ih _ _ (Nat.xor_lt_two_pow (by omega) ?_)
  split <;> decide
noncomputable def crcRun (r : Nat) (l : List Nat) : Nat := l.foldl (fun r w => cBytes 8 r w) r
noncomputable def crcL (s : Nat) (l : List Nat) : Nat := 4294967295 - crcRun (4294967295 - s) l
theorem crcL_lt (s : Nat) (l : List Nat) : crcL s l < 4294967296 := by unfold crcL; omega
theorem cTurn_lt (n : Nat) : ∀ r, r < 4294967296 → cTurn n r < 4294967296 := by
 induction n with
 | zero => intro r h; exact h
 | succ n ih =>
  intro r h
  refine ih _ ?_
  unfold cStep
  refine Nat.xor_lt_two_pow (n := 32) (by omega) ?_
  split <;> decide
theorem cByte_lt (r w : Nat) (h : r < 4294967296) : cByte r w < 4294967296 := by rw [cByte_eq]; exact onN_lt _ _ _ h
theorem u32n (a : Nat) (h : a < 4294967296) : IntKind.u32.wrap (a : Int) = a := by
 unfold IntKind.wrap
 simp only [IntKind.bits, IntKind.signed, Bool.false_and, Bool.false_eq_true, if_false]
 omega
theorem u32w (a : Nat) : IntKind.u32.wrap (a : Int) = ((a % 4294967296 : Nat) : Int) := by
 unfold IntKind.wrap
 simp only [IntKind.bits, IntKind.signed, Bool.false_and, Bool.false_eq_true, if_false]
 omega
theorem of32 (a : Nat) (h : a < 4294967296) : (BitVec.ofInt IntKind.u32.bits (a : Int)).toNat = a := by
 simp only [IntKind.bits]
 rw [BitVec.toNat_ofInt]
 omega
theorem xor32 (a b : Nat) (ha : a < 4294967296) (hb : b < 4294967296) : Go.bits .xor .u32 (a : Int) (b : Int) = ((a ^^^ b : Nat) : Int) := by
 unfold Go.bits
 simp only [BitVec.toNat_xor, of32 a ha, of32 b hb]
 exact u32n _ (Nat.xor_lt_two_pow (n := 32) ha hb)
theorem and32 (a b : Nat) (ha : a < 4294967296) (hb : b < 4294967296) : Go.bits .and .u32 (a : Int) (b : Int) = ((a &&& b : Nat) : Int) := by
 unfold Go.bits
 simp only [BitVec.toNat_and, of32 a ha, of32 b hb]
 exact u32n _ (Nat.lt_of_le_of_lt Nat.and_le_left ha)
theorem idx32 (r w : Nat) (hr : r < 4294967296) : Go.bits .and .u32 (Go.bits .xor .u32 (r : Int) ((w : Int) % 4294967296)) 255 = (((r ^^^ w) % 256 : Nat) : Int) := by
 have hx : r ^^^ w % 4294967296 < 4294967296 := Nat.xor_lt_two_pow (n := 32) hr (Nat.mod_lt _ (by decide))
 rw [show (w : Int) % 4294967296 = ((w % 4294967296 : Nat) : Int) by omega, xor32 r _ hr (Nat.mod_lt _ (by decide)), show (255 : Int) = ((255 : Nat) : Int) from rfl, and32 _ _ hx (by decide)]
 rw [show 255 = 2 ^ 8 - 1 from rfl, Nat.and_two_pow_sub_one_eq_mod]
 congr 1
 have h1 : (r ^^^ w % 2 ^ 32) % 2 ^ 8 = (r ^^^ w) % 2 ^ 8 := by
  rw [Nat.xor_mod_two_pow, Nat.mod_mod_of_dvd _ (⟨2 ^ 24, by decide⟩ : (2 : Nat) ^ 8 ∣ 2 ^ 32), ← Nat.xor_mod_two_pow]
 exact h1
theorem byte32 (r w : Nat) (hr : r < 4294967296) : Go.bits .xor .u32 ((r : Int) / 256) ((cTurn 8 ((r ^^^ w) % 256) : Nat) : Int) = ((cByte r w : Nat) : Int) := by
 rw [show (r : Int) / 256 = ((r / 256 : Nat) : Int) by omega, xor32 _ _ (by omega) (cTurn_lt _ _ (by omega))]
 rfl
theorem turn32 (r : Nat) (hr : r < 4294967296) (ho : r % 2 = 1) : Go.bits .xor .u32 ((r : Int) / 2) 3988292384 = ((cStep r : Nat) : Int) := by
 rw [show (r : Int) / 2 = ((r / 2 : Nat) : Int) by omega, show (3988292384 : Int) = ((3988292384 : Nat) : Int) from rfl, xor32 _ _ (by omega) (by decide)]
 unfold cStep
 rw [if_pos ho]
theorem comp32 (r : Nat) (hr : r < 4294967296) : Go.bits .xor .u32 IntKind.u32.max (r : Int) = ((4294967295 - r : Nat) : Int) := by
 rw [show IntKind.u32.max = ((4294967295 : Nat) : Int) from by decide, xor32 _ _ (by decide) hr]
 congr 1
 apply Nat.eq_of_testBit_eq
 intro i
 have h1 := Nat.testBit_two_pow_sub_succ (n := 32) (x := r) hr i
 have h2 := Nat.testBit_two_pow_sub_succ (n := 32) (x := 0) (by decide) i
 rw [show 4294967295 - r = 2 ^ 32 - (r + 1) by omega, h1, Nat.testBit_xor, show 4294967295 = 2 ^ 32 - (0 + 1) by decide, h2]
 by_cases hi : i < 32
 ·simp [hi]
 ·have : r.testBit i = false := Nat.testBit_lt_two_pow (Nat.lt_of_lt_of_le hr (Nat.pow_le_pow_right (n := 2) (by decide) (by omega : 32 ≤ i)))
  simp [hi, this]
theorem ret_int {k : IntKind} {a b : Int} (h : a = b) : Ending.returned (.int k a) = .returned (.int k b) := by rw [h]
end Go.Proofs.YtbbpcbjgekencaaGreatDoor.H
end
section
set_option linter.unusedVariables false
set_option linter.unusedSimpArgs false
set_option linter.unusedVariables false
set_option linter.unusedSimpArgs false
namespace Go.Proofs.YtbbpcbjgekencaaGreatDoor.H
open Go Go.RowKit Go.Proofs.YtbbpcbjgekencaaGreatDoorW.PrintWords Go.Proofs.YtbbpcbjgekencaaGreatDoorW.PrintLast Go.Proofs.YtbbpcbjgekencaaGreatDoorW.PrintMore Go.Proofs.YtbbpcbjgekencaaGreatDoor.Q
attribute [local go_sem] max2_int min2_int max_two min_two max_three min_three max_four min_four
abbrev turnV (g : Nat) : Value := .func (.func 140) #[] #[.pointer (some ⟨g, 0, none⟩)]
set_option maxRecDepth 100000 in
set_option maxHeartbeats 2000000 in
theorem turn_calls (g : Nat) (w : World) (hw : w.cell? ⟨g, 0, none⟩ = some (turnV g)) : ∀ (k r : Nat), r < 4294967296 → k ≤ 8 →
  Calls Tryz.prog 140 #[.int .u32 (r : Int), .int .i64 (k : Int), .pointer (some ⟨g, 0, none⟩)] w fun e w' => e = .returned (.int .u32 ((cTurn k r : Nat) : Int)) ∧ w = w' := by
 have HW := Lib.hid hw
 clear hw
 intro k
 induction k with
 | zero =>
  intro r hr hk
  go_enter Tryz.func140, Tryz.ntmps140
  go_wp2_with fail
  go_ret
  exact ⟨rfl, rfl⟩
 | succ k ih =>
  intro r hr hk
  have hz : (((k + 1 : Nat) : Int) == 0) = false := by simp; omega
  have hz1 : ((k + 1 : Nat) : Int) - 1 = (k : Int) := by omega
  have hk0 : 0 ≤ (k : Int) := by omega
  have hk8 : (k : Int) ≤ 8 := by omega
  have hc := HW.out
  by_cases ho : r % 2 = 1
  ·have hb : (Go.bits .and .u32 (r : Int) 1 == 1) = true := by
    rw [show (1 : Int) = ((1 : Nat) : Int) from rfl, and32 r 1 hr (by decide), Nat.and_one_is_mod, ho]; rfl
   have hx := turn32 r hr ho
   have HI := Lib.hid (ih (cStep r) (cTurn_lt 1 r hr) (by omega))
   clear ih ho hz1
   go_enter Tryz.func140, Tryz.ntmps140
   go_wp2_with fail
   refine HI.out.mono ?_
   rintro e w' ⟨rfl, rfl⟩
   go_wp2_with fail
   go_ret
   exact ⟨rfl, rfl⟩
  ·have hb : (Go.bits .and .u32 (r : Int) 1 == 1) = false := by
    rw [show (1 : Int) = ((1 : Nat) : Int) from rfl, and32 r 1 hr (by decide), Nat.and_one_is_mod, show r % 2 = 0 by omega]; rfl
   have hx : (r : Int) / 2 = ((cStep r : Nat) : Int) := by
    unfold cStep; rw [if_neg ho, Nat.xor_zero]; omega
   have HI := Lib.hid (ih (cStep r) (cTurn_lt 1 r hr) (by omega))
   clear ih ho hz1
   go_enter Tryz.func140, Tryz.ntmps140
   go_wp2_with fail
   refine HI.out.mono ?_
   rintro e w' ⟨rfl, rfl⟩
   go_wp2_with fail
   go_ret
   exact ⟨rfl, rfl⟩
set_option maxRecDepth 100000 in
set_option maxHeartbeats 2000000 in
theorem turned_calls (w : World) : Calls Tryz.prog 139 #[] w fun e w' => ∃ g, e = .returned (turnV g) ∧ w'.cell? ⟨g, 0, none⟩ = some (turnV g) ∧ w.heap.size ≤ g ∧ g < w'.heap.size ∧ Below w.heap.size w w' := by
 go_enter Tryz.func139, Tryz.ntmps139
 go_wp2_with fail
 go_ret
 exact ⟨w.heap.size, rfl, by simp, Nat.le_refl _, by simp, (Below.refl _ _).alloc (Nat.le_refl _) _⟩
noncomputable def tabA (k : Nat) : Array Value := ((List.range 256).map fun i => Value.int .u32 (((if i < k then cTurn 8 i else 0 : Nat)) : Int)).toArray
theorem tabA_get (k i : Nat) (h : i < 256) : (tabA k)[i]? = some (.int .u32 (((if i < k then cTurn 8 i else 0 : Nat)) : Int)) := by
 unfold tabA
 simp [h]
theorem tabA_size (k : Nat) : (tabA k).size = 256 := by unfold tabA; simp
theorem tabA_set (k : Nat) (h : k < 256) : (tabA k).setIfInBounds k (.int .u32 ((cTurn 8 k : Nat) : Int)) = tabA (k + 1) := by
 apply Array.ext_getElem?
 intro i
 rw [Array.getElem?_setIfInBounds, tabA_size]
 by_cases hi : i < 256
 ·rw [tabA_get _ i hi, tabA_get _ i hi]
  by_cases e : k = i
  ·subst e; rw [if_pos rfl, if_pos h, if_pos (by omega)]
  ·rw [if_neg e]
   by_cases h2 : i < k
   ·rw [if_pos h2, if_pos (by omega)]
   ·rw [if_neg h2, if_neg (by omega)]
 ·rw [if_neg (by omega), Array.getElem?_eq_none (by rw [tabA_size]; omega), Array.getElem?_eq_none (by rw [tabA_size]; omega)]
theorem tab_zero : Tryz.zeroCells180 = tabA 0 := by kernel_rfl
theorem turn8 (g : Nat) (w : World) (hw : w.cell? ⟨g, 0, none⟩ = some (turnV g)) (r : Nat) (hr : r < 4294967296) :
  Calls Tryz.prog 140 #[.int .u32 (r : Int), .int .i64 8, .pointer (some ⟨g, 0, none⟩)] w fun e w' => e = .returned (.int .u32 ((cTurn 8 r : Nat) : Int)) ∧ w = w' := turn_calls g w hw 8 r hr (by omega)
noncomputable def seal_More.f (a0 : Int) (l0 : List Int) : Option Int := if 0 ≤ a0 ∧ a0 ≤ 4294967295 ∧ (∀ x ∈ l0, 0 ≤ x ∧ x ≤ 18446744073709551615) then some ((crcL a0.toNat (l0.map Int.toNat) : Nat) : Int) else none
set_option maxRecDepth 100000 in
set_option maxHeartbeats 4000000 in
theorem seal_More.calls (a0 : Int) (A1 : Option Addr) (c1 : Nat) (l1 : List Int) (r : Int) (w : World) (hr1 : Kd.C (Kd.int .u64) w A1 l1.length l1) (hc1 : l1.length ≤ c1) (h : seal_More.f a0 l1 = some r) :
  Calls Tryz.prog 135 #[.int .u32 a0, .slice A1 l1.length c1] w fun e w' => e = .returned (.int .u32 r) ∧ Below w.heap.size w w' := by
 unfold seal_More.f at h
 split at h
 case isFalse => cases h
 case isTrue hlim =>
 cases h
 obtain ⟨s, rfl⟩ : ∃ n : Nat, a0 = (n : Int) := ⟨a0.toNat, by omega⟩
 rw [Int.toNat_natCast]
 have hs : s < 4294967296 := by omega
 have LM := Lib.hid hlim.2.2
 have HR := Lib.hid hr1
 have hmx : l1.length ≤ 9223372036854775807 := hr1.2.1
 clear hlim hr1 hc1
 go_enter Tryz.func135, Tryz.ntmps135
 go_wp2_with (first | (go_at_call 139; refine (turned_calls _).mono ?_; rintro e w1 ⟨g, rfl, hg, hg1, hg2, hb1⟩))
 rw [tab_zero]
 have hbk := blk_new w1 (.cells (tabA 0) 180)
 have hb2 : Below w.heap.size w (w1.alloc (.cells (tabA 0) 180)) := hb1.alloc hb1.size _
 have hcg : (w1.alloc (.cells (tabA 0) 180)).cell? ⟨g, 0, none⟩ = some (turnV g) := (World.cell?_alloc_lt w1 _ ⟨g, 0, none⟩ hg2).trans hg
 obtain ⟨B, hB⟩ : ∃ B, w1.heap.size = B := ⟨_, rfl⟩
 rw [hB] at hbk hg2
 simp only [hB]
 have hwB : w.heap.size ≤ B := by have := hb1.size; omega
 obtain ⟨w2, hw2⟩ : ∃ w2, w1.alloc (.cells (tabA 0) 180) = w2 := ⟨_, rfl⟩
 rw [hw2] at hbk hb2 hcg ⊢
 clear hw2 hB hg hb1
 go_loopw [12] (fun v wr => ∃ k : Nat, k ≤ 256 ∧ v = .int .i64 (k : Int) ∧ wr.heap[B]? = some (.cells (tabA k) 180 (0, 0)) ∧ wr.cell? ⟨g, 0, none⟩ = some (turnV g) ∧ Below w.heap.size w wr) (fun v _ => 256 - (intOf v).toNat)
 case atStart => exact ⟨0, by omega, rfl, hbk, hcg, hb2⟩
 case round =>
  obtain ⟨k, hk, rfl, hbk, hcg, hb2⟩ := hrel
  by_cases hlt : k < 256
  ·have hc0 : wr.cell? ⟨B, k, none⟩ = some (.int .u32 0) := (blk_cell hbk k).trans (by rw [tabA_get k k hlt, if_neg (Nat.lt_irrefl k)]; rfl)
   have hf0 : wr.frozen? ⟨B, k, none⟩ = false := blk_frozen hbk k
   have hk1 : (k : Int) < 256 := by omega
   have hu : IntKind.u32.wrap (k : Int) = (k : Int) := u32n k (by omega)
   have HK := Lib.hid hbk
   have HB := Lib.hid hb2
   clear hbk hb2
   go_wp2_with (first | (go_at_call 140; refine (turn8 g _ hcg k (by omega)).mono ?_; rintro e w3 ⟨rfl, rfl⟩))
   go_roundw
   case rel => exact ⟨k + 1, by omega, by go_num, by rw [← tabA_set k hlt]; exact blk_put HK.out k _ rfl, by rw [World.cell?_setCell_other _ _ _ _ (by intro e; injection e with e; omega)]; exact hcg, HB.out.setCell hwB _⟩
   case measure => simp [intOf]; omega
  ·obtain rfl : k = 256 := by omega
   have hTB := Lib.hid hbk
   have HB := Lib.hid hb2
   clear hbk hb2 hcg hk hlt
   go_wp2
   rw [comp32 s hs]
   go_loop [26, 8] (fun v u => ∃ (i r : Nat), i ≤ l1.length ∧ v = .int .i64 (i : Int) ∧ u = .int .u32 (r : Int) ∧ r < 4294967296 ∧ Hid (r = crcRun (4294967295 - s) ((l1.map Int.toNat).take i))) (fun v _ => l1.length - (intOf v).toNat)
   case atStart => exact ⟨0, 4294967295 - s, by omega, rfl, rfl, by omega, Lib.hid rfl⟩
   case round =>
    obtain ⟨i, r, hi, rfl, rfl, hr, HRn⟩ := hrel
    by_cases hlt : i < l1.length
    ·obtain ⟨x, hx⟩ : ∃ x : Nat, l1[i] = (x : Int) := ⟨l1[i].toNat, by have := LM.out _ (List.getElem_mem hlt); omega⟩
     have hxb := LM.out _ (List.getElem_mem hlt)
     rw [hx] at hxb
     have hx64 : x < 18446744073709551616 := by omega
     obtain ⟨ad, rfl, hcx0⟩ := Kd.at_int (Kd.C_below HR.out HB.out) (i : Int) (by omega) (by omega)
     have hi1 : (i : Int) + 1 ≤ 9223372036854775807 := by omega
     have hcx : wr.cell? (ad.add i) = some (.int .u64 (x : Int)) := by rw [← hx]; simpa [rd, hlt] using hcx0
     clear hcx0
     have HX := Lib.hid hx
     clear hx hxb
     go_wp2
     have hrx : cBytes 8 r x = crcRun (4294967295 - s) ((l1.map Int.toNat).take (i + 1)) := by
      rw [List.take_succ_eq_append_getElem (by simpa using hlt)]
      unfold crcRun
      rw [List.foldl_append, List.getElem_map, HX.out, Int.toNat_natCast, HRn.out]
      rfl
     have HRX := Lib.hid hrx
     have hrx32 : cBytes 8 r x < 4294967296 := by rw [cBytes_eq]; exact onN_lt _ _ _ hr
     have HR32 := Lib.hid hrx32
     clear hrx hrx32 hcx
     go_loop [30, 8, 10] (fun vj vq vx => ∃ (j q y : Nat), j ≤ 8 ∧ vj = .int .i64 (j : Int) ∧ vq = .int .u32 (q : Int) ∧ vx = .int .u64 (y : Int) ∧ q < 4294967296 ∧ y < 18446744073709551616 ∧ Hid (cBytes (8 - j) q y = cBytes 8 r x)) (fun v _ _ => 8 - (intOf v).toNat)
     case atStart => exact ⟨0, r, x, by omega, rfl, rfl, rfl, hr, hx64, Lib.hid rfl⟩
     case round =>
      obtain ⟨j, q, y, hj, rfl, rfl, rfl, hq, hy, HQ⟩ := hrel
      by_cases hj8 : j < 8
      ·have hidx := idx32 q y hq
       have hbyte := byte32 q y hq
       have hJ : (q ^^^ y) % 256 < 256 := Nat.mod_lt _ (by decide)
       obtain ⟨J, hJe⟩ : ∃ J, (q ^^^ y) % 256 = J := ⟨_, rfl⟩
       rw [hJe] at hidx hbyte hJ
       have hcJ : wr.cell? ⟨B, J, none⟩ = some (.int .u32 ((cTurn 8 J : Nat) : Int)) := (blk_cell hTB.out J).trans (by rw [tabA_get _ J hJ, if_pos hJ])
       have hJ1 : (J : Int) < 256 := by omega
       have hj1 : (j : Int) < 8 := by omega
       have hq0 : 0 ≤ (q : Int) := by omega
       have hy0 : 0 ≤ (y : Int) := by omega
       have hQB := cByte_lt q y hq
       obtain ⟨q2, hq2⟩ : ∃ q2, cByte q y = q2 := ⟨_, rfl⟩
       have HQ2 := Lib.hid hq2
       rw [hq2] at hbyte hQB
       clear hJe hq2
       go_wp2
       go_round
       case rel =>
        refine ⟨j + 1, q2, y / 256, by omega, by go_num, rfl, by go_num, hQB, by omega, Lib.hid ?_⟩
        rw [← HQ.out, show 8 - j = (8 - (j + 1)) + 1 by omega, ← HQ2.out]; rfl
       case measure => simp [intOf]; omega
      ·obtain rfl : j = 8 := by omega
       go_wp2
       go_round
       case rel =>
        have e1 : q = cBytes 8 r x := HQ.out
        exact ⟨i + 1, q, by omega, by go_num, rfl, hq, Lib.hid (by rw [e1]; exact HRX.out)⟩
       case measure => simp [intOf]; omega
    ·obtain rfl : i = l1.length := by omega
     go_wp2
     go_ret
     refine ⟨ret_int ?_, HB.out⟩
     have e := HRn.out
     rw [List.take_of_length_le (by simp)] at e
     unfold crcL
     rw [← e]
     exact comp32 r hr
end Go.Proofs.YtbbpcbjgekencaaGreatDoor.H
end
