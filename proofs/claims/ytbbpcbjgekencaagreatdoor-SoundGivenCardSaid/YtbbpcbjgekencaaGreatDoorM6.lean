import Derived.Test.YtbbpcbjgekencaaGreatDoorM5
import Derived.Scope
section
set_option linter.unusedVariables false
set_option linter.unusedSimpArgs false
set_option linter.unusedVariables false
set_option linter.unusedSimpArgs false
set_option maxRecDepth 100000
namespace Go.Proofs.YtbbpcbjgekencaaGreatDoor.H
open Go Go.RowKit Go.Proofs.YtbbpcbjgekencaaGreatDoorW.PrintWords Go.Proofs.YtbbpcbjgekencaaGreatDoor Go.Proofs.YtbbpcbjgekencaaGreatDoor.Q
noncomputable def tile_Chunks.f (k : Nat) (l0 : List Int) : Option (List S114 × Bool) := (FT.tile_Chunks.f k l0).map fun q => (q.2, q.1)
theorem tile_Chunks.calls (k : Nat) (A0 : Option Addr) (c0 : Nat) (l0 : List Int) (r1 : List S114) (r2 : Bool) (w : World) (hr0 : Kd.C (Kd.int .u64) w A0 l0.length l0) (hc0 : l0.length ≤ c0) (h : tile_Chunks.f k l0 = some (r1, r2)) :
  CallsG 91 #[.slice A0 l0.length c0] w fun e w' => ∃ v0_ : Value, e = .returned (.tuple #[v0_, .bool r2]) ∧ Kd.R k114 114 w' w.heap.size (fun _ => True) v0_ r1 ∧ Below w.heap.size w w' := by
 intro hG
 unfold tile_Chunks.f at h
 obtain ⟨q, hq, he⟩ := Option.map_eq_some_iff.mp h
 obtain ⟨q0, q1⟩ := q
 simp only [Prod.mk.injEq] at he
 obtain ⟨rfl, rfl⟩ := he
 refine (Ev.ok_calls (FT.tile_Chunks.o).ok (k := k) (ats := [.sl 33 l0]) hq (xs := [.t (.cell (.sl .far 33 l0))]) rfl rfl (vals := #[.slice A0 l0.length c0]) (.cons (.t (.cell (Ev.conc_of_C (Ev.tab_ok Ev.gl0) (e := 33) (Kd.int .u64) rfl hr0 hc0 (of_decide_eq_true (by kernel_rfl)) (Ev.k1_33 fun q hq => Ev.any_far hq) fun q hq => Ev.any_far hq))) .nil) (of_gl hG)).mono ?_
 rintro e w' ⟨x, E', rfl, hL⟩
 obtain ⟨vs, rfl, hvs⟩ := Ev.concA_tup hL.val
 obtain ⟨v0, t0, rfl, h0, hvs1⟩ := Ev.concTs_uncons hvs
 obtain ⟨v1, t1, rfl, h1, hvs2⟩ := Ev.concTs_uncons hvs1
 obtain rfl := Ev.concTs_unnil hvs2
 obtain rfl := Ev.conc_own (Ev.concT_cell h0)
 obtain rfl := Ev.concT_value h1 rfl
 exact ⟨_, rfl, (Ev.fl114 Ev.gl0).R_of (Ev.tab_ok Ev.gl0) (hL.mem.blk 0 _ rfl) (fun q hq => (hL.mine q ⟨0, _, rfl, rfl, hq⟩).resolve_right Ev.own_none), Ev.left_below hL⟩
end Go.Proofs.YtbbpcbjgekencaaGreatDoor.H
end
section
set_option linter.unusedVariables false
set_option linter.unusedSimpArgs false
set_option linter.unusedVariables false
set_option linter.unusedSimpArgs false
namespace Go.Proofs.YtbbpcbjgekencaaGreatDoor.H
open Go Go.RowKit Go.Proofs.YtbbpcbjgekencaaGreatDoorW.PrintWords Go.Proofs.YtbbpcbjgekencaaGreatDoorW.PrintLast Go.Proofs.YtbbpcbjgekencaaGreatDoorW.PrintMore Go.Proofs.YtbbpcbjgekencaaGreatDoor.Q
attribute [local go_sem] max2_int min2_int max_two min_two max_three min_three max_four min_four
attribute [local go_sem] Oper.semAt_some
noncomputable def mkB (a : Nat) (cl : Int) (k : Int) : S61 := ⟨(a : Int), k, blockW cl⟩
noncomputable def huge (a : Nat) (k mn_ : Int) : List S61 := if k = 2 then [⟨(a : Int), 0, wrap64 (mn_ * 32)⟩] else []
noncomputable def blkOne (a : Nat) (c : S114) : List S61 := huge a c.f0 c.f3 ++ (onesI c.f4 (manyW c.f1)).map (mkB a c.f1)
noncomputable def blkAll (l : List S114) : List S61 := l.zipIdx.flatMap fun p => blkOne p.2 p.1
theorem manyW_le (c : Int) : manyW c ≤ 8 := by unfold manyW; repeat' split
                                               all_goals omega
theorem onesI_len (b c : Int) : (onesI b (manyW c)).length ≤ 8 := by
 unfold onesI
 rw [List.length_map]
 exact Nat.le_trans (ones_length _ _) (by have := manyW_le c; omega)
theorem huge_len (a : Nat) (k m : Int) : (huge a k m).length ≤ 1 := by unfold huge; split <;> simp
theorem blkOne_len (a : Nat) (c : S114) : (blkOne a c).length ≤ 9 := by
 unfold blkOne
 rw [List.length_append, List.length_map]
 have := onesI_len c.f4 c.f1
 have := huge_len a c.f0 c.f3
 omega
theorem blkAll_take (l : List S114) (a : Nat) (h : a < l.length) : blkAll (l.take (a + 1)) = blkAll (l.take a) ++ blkOne a l[a] := by
 unfold blkAll
 rw [List.take_succ_eq_append_getElem h, List.zipIdx_append, List.flatMap_append]
 simp only [List.length_take, Nat.min_eq_left (Nat.le_of_lt h), Nat.zero_add, List.zipIdx_cons, List.zipIdx_nil, List.flatMap_cons, List.flatMap_nil, List.append_nil]
theorem blkAll_take_len (l : List S114) : ∀ a, a ≤ l.length → (blkAll (l.take a)).length ≤ 9 * a
 | 0, _ => by simp [blkAll]
 | a + 1, h => by
  rw [blkAll_take l a h, List.length_append]
  have := blkAll_take_len l a (Nat.le_of_lt h)
  have := blkOne_len a l[a]
  omega
theorem blkAll_prefix (l : List S114) (a : Nat) (h : a < l.length) (p : List S61) (hp : p <+: blkOne a l[a]) : blkAll (l.take a) ++ p <+: blkAll l := by
 obtain ⟨q, hq⟩ := hp
 have e : blkAll l = blkAll (l.take (a + 1)) ++ (List.zipIdx (l.drop (a + 1)) (a + 1)).flatMap fun p => blkOne p.2 p.1 := by
  have e1 : l = l.take (a + 1) ++ l.drop (a + 1) := (List.take_append_drop _ _).symm
  unfold blkAll
  conv => lhs; rw [e1]
  rw [List.zipIdx_append, List.flatMap_append]
  simp only [List.length_take, Nat.min_eq_left (Nat.succ_le_of_lt h), Nat.zero_add]
 rw [e, blkAll_take l a h, ← hq]
 exact ⟨q ++ (List.zipIdx (l.drop (a + 1)) (a + 1)).flatMap fun p => blkOne p.2 p.1, by simp⟩
noncomputable def RowAt (W : World) (A : Option Addr) (e : Nat) (xs : List Value) : Prop := xs = [] ∨ ∃ g cur, A = some ⟨g, 0, none⟩ ∧ W.heap[g]? = some (.cells cur e (0, 0)) ∧ ∀ i, i < xs.length → cur[i]? = xs[i]?
theorem RowAt.keep {n₀ e : Nat} {W W' : World} {A : Option Addr} {xs : List Value} (h : RowAt W A e xs) (hk : KeepT n₀ e W W') : RowAt W' A e xs := by
 rcases h with h | ⟨g, cur, e1, h2, h3⟩
 ·exact .inl h
 ·exact .inr ⟨g, cur, e1, hk.2 _ _ _ h2, h3⟩
theorem own_form5 {W : World} {base e n : Nat} {v : Value} {xs : List Value} (h : W.ownsRow base e 5 v n xs) : ∃ A cap, v = .slice A n cap ∧ RowAt W A e xs := by
 obtain ⟨h1, ⟨rfl, rfl⟩ | ⟨g, cap, cur, rfl, _, h2, _, _, _, h3⟩⟩ := h
 ·exact ⟨_, _, rfl, .inl (List.length_eq_zero_iff.1 (by omega))⟩
 ·refine ⟨_, _, rfl, .inr ⟨g, cur, rfl, h2, fun i hi => ?_⟩⟩
  rw [← h3, List.getElem?_take_of_lt (by rw [← h1]; exact hi), Array.getElem?_toList]
theorem own_form {W : World} {base e n : Nat} {v : Value} {xs : List Value} (h : W.ownsRow base e 1 v n xs) : ∃ A cap, v = .slice A n cap ∧ RowAt W A e xs := by
 obtain ⟨h1, ⟨rfl, rfl⟩ | ⟨g, cap, cur, rfl, _, h2, _, _, _, h3⟩⟩ := h
 ·exact ⟨_, _, rfl, .inl (List.length_eq_zero_iff.1 (by omega))⟩
 ·refine ⟨_, _, rfl, .inr ⟨g, cur, rfl, h2, fun i hi => ?_⟩⟩
  rw [← h3, List.getElem?_take_of_lt (by rw [← h1]; exact hi), Array.getElem?_toList]
noncomputable def ChRow (W : World) (A : Option Addr) (xs : List S114) : Prop := ∃ inner, Reps (fun (x : S114) (cs : List Value) => cs = [.int .i64 x.f0, .int .i64 x.f1, .int .i64 x.f2, .int .i64 x.f3, .int .u64 x.f4]) 5 xs inner ∧ RowAt W A 114 inner
theorem ChRow.keep {n₀ : Nat} {W W' : World} {A : Option Addr} {xs : List S114} (h : ChRow W A xs) (hk : KeepT n₀ 114 W W') : ChRow W' A xs := by
 obtain ⟨inner, h1, h2⟩ := h
 exact ⟨inner, h1, h2.keep hk⟩
theorem ChRow.below {W W' : World} {A : Option Addr} {xs : List S114} (h : ChRow W A xs) (hb : Below W.heap.size W W') : ChRow W' A xs := h.keep (KeepT.of_below hb (Nat.le_refl _))
theorem ChRow.at {W : World} {A : Option Addr} {xs : List S114} (h : ChRow W A xs) (a : Nat) (ha : a < xs.length) : ∃ ad, A = some ad ∧ W.cell? (ad.add (a * 5)) = some (.int .i64 xs[a].f0) ∧ W.cell? ⟨(ad.add (a * 5)).block, (ad.add (a * 5)).off + 1, none⟩ = some (.int .i64 xs[a].f1) ∧ W.cell? ⟨(ad.add (a * 5)).block, (ad.add (a * 5)).off + 2, none⟩ = some (.int .i64 xs[a].f2) ∧ W.cell? ⟨(ad.add (a * 5)).block, (ad.add (a * 5)).off + 3, none⟩ = some (.int .i64 xs[a].f3) ∧ W.cell? ⟨(ad.add (a * 5)).block, (ad.add (a * 5)).off + 4, none⟩ = some (.int .u64 xs[a].f4) := by
 obtain ⟨inner, hr, hrow⟩ := h
 have h5 := hr.2 a xs[a] (List.getElem?_eq_getElem ha)
 have hat : ∀ i, i < 5 → inner[a * 5 + i]? = [Value.int .i64 xs[a].f0, .int .i64 xs[a].f1, .int .i64 xs[a].f2, .int .i64 xs[a].f3, .int .u64 xs[a].f4][i]? := fun i hi => by
  rw [← h5, List.getElem?_take_of_lt hi, List.getElem?_drop]
 rcases hrow with rfl | ⟨g, cur, rfl, hg, hcur⟩
 ·have := hat 0 (by omega); simp at this
 ·have hc : ∀ i, i < 5 → W.cell? ⟨g, a * 5 + i, none⟩ = [Value.int .i64 xs[a].f0, .int .i64 xs[a].f1, .int .i64 xs[a].f2, .int .i64 xs[a].f3, .int .u64 xs[a].f4][i]? := fun i hi => by
   rw [← hat i hi, ← hcur (a * 5 + i) (by rw [hr.1]; have := ha; omega)]
   exact blk_cell hg _
  have had : (⟨g, 0, none⟩ : Addr).add (a * 5) = ⟨g, a * 5, none⟩ := by unfold Addr.add; split <;> simp_all
  refine ⟨⟨g, 0, none⟩, rfl, ?_, ?_, ?_, ?_, ?_⟩ <;> rw [had]
  ·simpa using hc 0 (by omega)
  ·simpa using hc 1 (by omega)
  ·simpa using hc 2 (by omega)
  ·simpa using hc 3 (by omega)
  ·simpa using hc 4 (by omega)
theorem te_keep {w w1 w2 : World} {c0 c1 : Addr} {v0 v1 : Value} (hb : Below w1.heap.size w1 w2)
  (h : w1.cell? c0 = some v0 ∧ w1.cell? c1 = some v1 ∧ Below w.heap.size w w1 ∧ Gl w1) : w2.cell? c0 = some v0 ∧ w2.cell? c1 = some v1 ∧ Below w.heap.size w w2 ∧ Gl w2 :=
 ⟨pw_cell_below hb h.1, pw_cell_below hb h.2.1, below_step h.2.2.1 hb, h.2.2.2.below hb⟩
theorem te_gl {w w1 : World} {c0 c1 : Addr} {v0 v1 : Value} (h : w1.cell? c0 = some v0 ∧ w1.cell? c1 = some v1 ∧ Below w.heap.size w w1 ∧ Gl w1) : Gl w1 := h.2.2.2
noncomputable def KeepC (n₀ : Nat) (W W' : World) : Prop := KeepT n₀ 114 W W' ∧ KeepT n₀ 3 W W'
set_option maxRecDepth 100000 in
set_option maxHeartbeats 8000000 in
theorem te_yields (n : Nat) (hn : 1 ≤ n) (l Bs n₀ : Nat) (A : Option Addr) (cap : Nat) (xs : List S114) (hxs : xs.length ≤ 1048576)
  (w0 : World) (hn0 : w0.heap.size = n₀) (hG : Gl w0) (J Jx : List S61 → World → Prop) (W : World) (hC : ChRow W A xs) (hb0 : Below n₀ w0 W) (hJ : AbidesFrom W.heap.size J)
  (hY : ∀ pre x W1, J pre W1 → pre.length < 9 * xs.length → YieldAt Fence.wide (n - 1) Tryz.prog l #[.agg #[.int .i64 x.f0, .int .i64 x.f1, .int .i64 x.f2]] W1 fun e W' =>
   (e = .returned (.bool true) ∧ J (pre ++ [x]) W' ∧ KeepC n₀ W1 W') ∨ (e = .returned (.bool false) ∧ Jx (pre ++ [x]) W'))
  (hBs : W.cell? ⟨Bs, 0, none⟩ = some (.slice A xs.length cap)) (h0 : J [] W) :
  CallsIn Fence.wide n Tryz.prog 94 #[.func (.yield l) #[] #[], .pointer (some ⟨Bs, 0, none⟩)] W fun e W' => (∃ v, e = .returned v) ∧
   ((∃ ys, ys = blkAll xs ∧ J ys W') ∨ (∃ pre, pre <+: blkAll xs ∧ Jx pre W')) := by
 refine callsIn_of_wp Tryz.func94 rfl trivial ?_ rfl
 simp only [Tryz.ntmps94, List.size_toArray, List.length_cons, List.length_nil, Nat.reduceAdd, Nat.reduceSub, Array.replicate_succ, Array.replicate_zero, List.push_toArray, List.append_toArray, List.nil_append, List.cons_append]
 refine wpIn_wide.2 (wp_scope_straight ((wpIn_wide (n := n)).1 ?_))
 refine wpIn_seq ?_
 refine wpIn_label ?_
 gi_wp2
 gi_loopw [9] (fun j wr => ∃ a : Nat, a ≤ xs.length ∧ j = .int .i64 (a : Int) ∧ J (blkAll (xs.take a)) wr ∧ Below n₀ W wr ∧ ChRow wr A xs)
  (fun j _ => xs.length - (intOf j).toNat)
 case atStart => exact ⟨0, Nat.zero_le _, rfl, by simpa [blkAll] using h0, Below.refl _ _, hC⟩
 case round =>
  obtain ⟨a, ha, rfl, hJs, hbr, hCr⟩ := hrel
  have hbw : Below w0.heap.size w0 wr := by rw [hn0]; exact hb0.trans hbr
  have hGr := hG.below hbw
  by_cases hlt : a < xs.length
  ·obtain ⟨ad, rfl, hx0, hx1, hx2, hx3, hx4⟩ := hCr.at a hlt
   have HLT := Aside0.mk hlt
   have HT := blkAll_take xs a hlt
   have HLE := Aside0.mk (blkAll_take_len xs a ha)
   have HPX := Aside0.mk (blkAll_prefix xs a hlt)
   obtain ⟨c, hc⟩ : ∃ c, xs[a] = c := ⟨_, rfl⟩
   rw [hc] at hx0 hx1 hx2 hx3 hx4 HT HPX
   obtain ⟨k, cl, ln, mn_, bt⟩ := c
   dsimp only at hx0 hx1 hx2 hx3 hx4
   have HT' := Aside0.mk HT
   clear hc HT
   obtain ⟨pre0, hpre0⟩ : ∃ p, blkAll (xs.take a) = p := ⟨_, rfl⟩
   rw [hpre0] at hJs HT' HLE HPX
   have HP0 := Aside0.mk hpre0
   clear hpre0
   have hJo := hJ _ _ _ none hJs (World.grownBy_alloc wr (.cells #[.int .i64 k, .int .i64 cl, .int .i64 ln, .int .i64 mn_, .int .u64 bt] 114) none) (by simp)
   have hbx := blk_new wr (.cells #[.int .i64 k, .int .i64 cl, .int .i64 ln, .int .i64 mn_, .int .u64 bt] 114)
   have hbo : Below n₀ W (wr.alloc (.cells #[.int .i64 k, .int .i64 cl, .int .i64 ln, .int .i64 mn_, .int .u64 bt] 114)) := hbr.alloc (by have := hbr.size; have := hb0.size; omega) _
   have hCo : ChRow (wr.alloc (.cells #[.int .i64 k, .int .i64 cl, .int .i64 ln, .int .i64 mn_, .int .u64 bt] 114)) (some ad) xs := hCr.below ((Below.refl _ _).alloc (Nat.le_refl _) _)
   have hGo := hGr.alloc (.cells #[.int .i64 k, .int .i64 cl, .int .i64 ln, .int .i64 mn_, .int .u64 bt] 114)
   have ek : Aside0 (huge a k mn_ = if k = 2 then [⟨(a : Int), 0, wrap64 (mn_ * 32)⟩] else []) := ⟨rfl⟩
   by_cases hk : k = 2
   ·have hk' : (k == 2) = true := by simpa using hk
    have ek1 : huge a k mn_ = [⟨(a : Int), 0, wrap64 (mn_ * 32)⟩] := by rw [ek.out, if_pos hk]
    have EK := Aside0.mk ek1
    clear ek ek1 hk
    obtain ⟨fn, tmps, assign, body, hy, hR⟩ := hY pre0 ⟨(a : Int), 0, wrap64 (mn_ * 32)⟩ _ hJo (by have := HLE.out; have := HLT.out; omega)
    dsimp only at hy hR
    gi_wp2
    refine hR.mono ?_
    rintro e W3 (⟨rfl, hJ3, hk3⟩ | ⟨rfl, hJx3⟩)
    ·have hx3 := hk3.1.2 _ _ _ hbx
     have hb3 : Below n₀ W W3 := hbo.trans hk3.1.1
     have hC3 := hCo.keep hk3.1
     have HPR : Aside0 (pre0 ++ [(⟨(a : Int), 0, wrap64 (mn_ * 32)⟩ : S61)] = pre0 ++ huge a k mn_) := ⟨by rw [EK.out]⟩
     generalize pre0 ++ [(⟨(a : Int), 0, wrap64 (mn_ * 32)⟩ : S61)] = pre1 at *
     clear hk3 hR hy hJo hbx hbo hGo hCo
     obtain ⟨b5, hb5⟩ : ∃ b : Nat, wr.heap.size = b := ⟨_, rfl⟩
     rw [hb5] at hx3
     simp only [hb5]
     clear hb5
     have hG3 : Gl W3 := hG.below (by rw [hn0]; exact hb0.trans hb3)
     have hS0 : W3.cell? ⟨b5, 1, none⟩ = some (.int .i64 cl) ∧ W3.cell? ⟨b5, 4, none⟩ = some (.int .u64 bt) ∧ Below W3.heap.size W3 W3 ∧ Gl W3 := ⟨(blk_cell hx3 1).trans rfl, (blk_cell hx3 4).trans rfl, Below.refl _ _, hG3⟩
     clear hG3
     have hMany := fun w => class_Many.calls cl (manyW cl) w rfl
     gi_wp2
     refine wpIn_wide.2 ?_
     go_region_held3 (fun w' => w'.cell? ⟨b5, 1, none⟩ = some (.int .i64 cl) ∧ w'.cell? ⟨b5, 4, none⟩ = some (.int .u64 bt) ∧ Below W3.heap.size W3 w' ∧ Gl w')
      (first | assumption | exact te_keep (below_drew1 (Below.refl _ _)) hS0 | exact te_keep (pw_below_drewN (Below.refl _ _) _) (by assumption) | exact te_keep (by assumption) (by assumption))
      (first
       | (go_at_call 96; (with_reducible refine (hMany _).mono ?_ (te_gl (by assumption))); rintro e w' ⟨rfl, ⟨nd, rfl⟩⟩)
       | (go_at_call 95; (with_reducible refine (places_own bt (manyW cl) _).mono ?_); rintro e w4 ⟨v, rfl, ho, hb⟩; obtain ⟨A2, cap2, rfl, hro⟩ := own_form ho; clear ho))
     have hS4 : w4.cell? ⟨b5, 1, none⟩ = some (.int .i64 cl) ∧ w4.cell? ⟨b5, 4, none⟩ = some (.int .u64 bt) ∧ Below W3.heap.size W3 w4 ∧ Gl w4 := by assumption
     have hJ4 := hJ _ _ _ none hJ3 (below_grown hS4.2.2.1) (by simp)
     have hx4 := blk_below hx3 hS4.2.2.1
     have hC4 := hC3.below hS4.2.2.1
     have hb4 : Below n₀ W w4 := hb3.trans (hS4.2.2.1.mono (by have := hb3.size; have := hb0.size; omega))
     have HO := onesI_len bt cl
     obtain ⟨os, hos⟩ : ∃ os, onesI bt (manyW cl) = os := ⟨_, rfl⟩
     rw [hos] at hro HO
     simp only [hos]
     have HOS := Aside0.mk hos
     clear hos hb hS4 hx3 hJ3 hb3 hS0
     gi_wp2
     gi_loopw [34] (fun kk w2 => ∃ j : Nat, j ≤ os.length ∧ kk = .int .i64 (j : Int) ∧ J (pre1 ++ (os.take j).map (mkB a cl)) w2 ∧ Below n₀ W w2 ∧ w2.heap[b5]? = some (.cells #[.int .i64 k, .int .i64 cl, .int .i64 ln, .int .i64 mn_, .int .u64 bt] 114 (0, 0)) ∧ RowAt w2 A2 3 (encs (Value.int .i64) os) ∧ ChRow w2 (some ad) xs)
      (fun kk _ => os.length - (intOf kk).toNat)
     case atStart => exact ⟨0, Nat.zero_le _, rfl, by simpa using hJ4, hb4, hx4, hro, hC4⟩
     case round =>
      obtain ⟨j, hj, rfl, hJ5, hb5, hx5, hr5, hC5⟩ := hrel
      by_cases hjl : j < os.length
      ·rcases hr5 with h | ⟨g, cur, rfl, hg, hcur⟩
       ·exact absurd (congrArg List.length h) (by simp [encs]; intro h; rw [h] at hjl; simp at hjl)
       have hcell : wr.cell? ⟨g, j, none⟩ = some (.int .i64 os[j]) := (blk_cell hg j).trans (by rw [hcur j (by simpa [encs] using hjl)]; simp only [encs, List.getElem?_map, List.getElem?_eq_getElem hjl, Option.map_some])
       have hr6 : RowAt wr (some ⟨g, 0, none⟩) 3 (encs (Value.int .i64) os) := .inr ⟨g, cur, rfl, hg, hcur⟩
       have hc1 := (blk_cell hx5 1).trans (show _ = some (.int .i64 cl) from rfl)
       have hG5 : Gl wr := hG.below (by rw [hn0]; exact hb0.trans hb5)
       have hlen : (pre1 ++ (os.take j).map (mkB a cl)).length < 9 * xs.length := by
        rw [HPR.out, List.length_append, List.length_append, List.length_map, List.length_take]
        have := HLE.out; have := HLT.out; have := huge_len a k mn_; omega
       have hto : (os.take (j + 1)).map (mkB a cl) = (os.take j).map (mkB a cl) ++ [mkB a cl os[j]] := by rw [List.take_succ_eq_append_getElem hjl, List.map_append]; rfl
       have HTO := Aside0.mk hto
       have HBK : Aside0 (blkOne a ⟨k, cl, ln, mn_, bt⟩ = huge a k mn_ ++ os.map (mkB a cl)) := ⟨by simp only [blkOne, HOS.out]⟩
       obtain ⟨o, hoj⟩ : ∃ o, os[j] = o := ⟨_, rfl⟩
       rw [hoj] at hcell HTO
       clear hto hg hcur hoj
       gi_wp2_with (refine ⟨trivial, ?_⟩; gi_at_call 97; refine (callsIn_wide.2 ((class_Block.calls cl (blockW cl) _ rfl) hG5)).mono ?_; rintro e w' ⟨rfl, ⟨nd, rfl⟩⟩; obtain ⟨fn, tmps, assign, body, hy, hR⟩ := hY _ (mkB a cl o) (wr.drewN nd) (hJ _ _ _ none hJ5 (below_grown (pw_below_drewN (Below.refl _ _) nd)) (by simp)) hlen; dsimp only [mkB] at hy hR)
       refine hR.mono ?_
       rintro e W6 (⟨rfl, hJ6, hk6⟩ | ⟨rfl, hJx6⟩)
       ·gi_wp2
        go_roundw
        case rel => exact ⟨j + 1, by omega, by go_num, by rw [HTO.out, ← List.append_assoc]; exact hJ6, (pw_below_drewN hb5 nd).trans hk6.1.1, hk6.1.2 _ _ _ hx5, RowAt.keep (W := wr.drewN nd) hr6 hk6.2, ChRow.keep (W := wr.drewN nd) hC5 hk6.1⟩
        case measure => simp [intOf]; omega
       ·gi_wp2
        simp only [Exit.noGoto]
        go_end0
        refine ⟨⟨_, rfl⟩, .inr ⟨_, ?_, hJx6⟩⟩
        have e1 : pre1 ++ (os.take j).map (mkB a cl) ++ [mkB a cl o] = pre0 ++ (huge a k mn_ ++ (os.take (j + 1)).map (mkB a cl)) := by rw [HPR.out, HTO.out]; simp
        have e2 := HPX.out (huge a k mn_ ++ (os.take (j + 1)).map (mkB a cl)) (by rw [HBK.out]; exact ⟨(os.drop (j + 1)).map (mkB a cl), by rw [List.append_assoc, ← List.map_append, List.take_append_drop]⟩)
        rw [← e1] at e2
        exact e2
      ·obtain rfl : j = os.length := by omega
       gi_wp2
       go_roundw
       case rel =>
        refine ⟨a + 1, by have := HLT.out; omega, by go_num, ?_, hb5, hC5⟩
        rw [List.take_length, HPR.out] at hJ5
        rw [HT'.out]
        simpa [blkOne, HOS.out] using hJ5
       case measure => simp [intOf]; have := HLT.out; omega
    ·gi_wp2
     simp only [Exit.noGoto]
     go_end0
     exact ⟨⟨_, rfl⟩, .inr ⟨_, HPX.out _ ⟨(onesI bt (manyW cl)).map (mkB a cl), by simp only [blkOne, EK.out]⟩, hJx3⟩⟩
   ·have hk' : (k == 2) = false := by simpa using hk
    have EK : Aside0 (huge a k mn_ = []) := ⟨by rw [ek.out, if_neg hk]⟩
    clear ek hk
    gi_wp2
    refine ⟨fun _ h => (by cases h), ?_⟩
    have hJ3 := hJo
    have hx3 := hbx
    have hb3 := hbo
    have hC3 := hCo
    have HPR : Aside0 (pre0 = pre0 ++ huge a k mn_) := ⟨by rw [EK.out, List.append_nil]⟩
    obtain ⟨W3, hW3⟩ : ∃ W3, wr.alloc (.cells #[.int .i64 k, .int .i64 cl, .int .i64 ln, .int .i64 mn_, .int .u64 bt] 114) = W3 := ⟨_, rfl⟩
    rw [hW3] at hJ3 hx3 hb3 hC3 ⊢
    clear hJo hbx hbo hGo hCo hW3
    have HPE : Aside0 (pre0 = pre0) := ⟨rfl⟩
    obtain ⟨pre1, hp1⟩ : ∃ p, pre0 = p := ⟨_, rfl⟩
    rw [hp1] at hJ3
    have HPR : Aside0 (pre1 = pre0 ++ huge a k mn_) := ⟨by rw [← hp1]; exact HPR.out⟩
    clear hp1 HPE
    obtain ⟨b5, hb5⟩ : ∃ b : Nat, wr.heap.size = b := ⟨_, rfl⟩
    rw [hb5] at hx3
    simp only [hb5]
    clear hb5
    have hG3 : Gl W3 := hG.below (by rw [hn0]; exact hb0.trans hb3)
    have hS0 : W3.cell? ⟨b5, 1, none⟩ = some (.int .i64 cl) ∧ W3.cell? ⟨b5, 4, none⟩ = some (.int .u64 bt) ∧ Below W3.heap.size W3 W3 ∧ Gl W3 := ⟨(blk_cell hx3 1).trans rfl, (blk_cell hx3 4).trans rfl, Below.refl _ _, hG3⟩
    clear hG3
    have hMany := fun w => class_Many.calls cl (manyW cl) w rfl
    gi_wp2
    refine wpIn_wide.2 ?_
    go_region_held3 (fun w' => w'.cell? ⟨b5, 1, none⟩ = some (.int .i64 cl) ∧ w'.cell? ⟨b5, 4, none⟩ = some (.int .u64 bt) ∧ Below W3.heap.size W3 w' ∧ Gl w')
     (first | assumption | exact te_keep (below_drew1 (Below.refl _ _)) hS0 | exact te_keep (pw_below_drewN (Below.refl _ _) _) (by assumption) | exact te_keep (by assumption) (by assumption))
     (first
      | (go_at_call 96; (with_reducible refine (hMany _).mono ?_ (te_gl (by assumption))); rintro e w' ⟨rfl, ⟨nd, rfl⟩⟩)
      | (go_at_call 95; (with_reducible refine (places_own bt (manyW cl) _).mono ?_); rintro e w4 ⟨v, rfl, ho, hb⟩; obtain ⟨A2, cap2, rfl, hro⟩ := own_form ho; clear ho))
    have hS4 : w4.cell? ⟨b5, 1, none⟩ = some (.int .i64 cl) ∧ w4.cell? ⟨b5, 4, none⟩ = some (.int .u64 bt) ∧ Below W3.heap.size W3 w4 ∧ Gl w4 := by assumption
    have hJ4 := hJ _ _ _ none hJ3 (below_grown hS4.2.2.1) (by simp)
    have hx4 := blk_below hx3 hS4.2.2.1
    have hC4 := hC3.below hS4.2.2.1
    have hb4 : Below n₀ W w4 := hb3.trans (hS4.2.2.1.mono (by have := hb3.size; have := hb0.size; omega))
    have HO := onesI_len bt cl
    obtain ⟨os, hos⟩ : ∃ os, onesI bt (manyW cl) = os := ⟨_, rfl⟩
    rw [hos] at hro HO
    simp only [hos]
    have HOS := Aside0.mk hos
    clear hos hb hS4 hx3 hJ3 hb3 hS0
    gi_wp2
    gi_loopw [34] (fun kk w2 => ∃ j : Nat, j ≤ os.length ∧ kk = .int .i64 (j : Int) ∧ J (pre1 ++ (os.take j).map (mkB a cl)) w2 ∧ Below n₀ W w2 ∧ w2.heap[b5]? = some (.cells #[.int .i64 k, .int .i64 cl, .int .i64 ln, .int .i64 mn_, .int .u64 bt] 114 (0, 0)) ∧ RowAt w2 A2 3 (encs (Value.int .i64) os) ∧ ChRow w2 (some ad) xs)
     (fun kk _ => os.length - (intOf kk).toNat)
    case atStart => exact ⟨0, Nat.zero_le _, rfl, by simpa using hJ4, hb4, hx4, hro, hC4⟩
    case round =>
     obtain ⟨j, hj, rfl, hJ5, hb5, hx5, hr5, hC5⟩ := hrel
     by_cases hjl : j < os.length
     ·rcases hr5 with h | ⟨g, cur, rfl, hg, hcur⟩
      ·exact absurd (congrArg List.length h) (by simp [encs]; intro h; rw [h] at hjl; simp at hjl)
      have hcell : wr.cell? ⟨g, j, none⟩ = some (.int .i64 os[j]) := (blk_cell hg j).trans (by rw [hcur j (by simpa [encs] using hjl)]; simp only [encs, List.getElem?_map, List.getElem?_eq_getElem hjl, Option.map_some])
      have hr6 : RowAt wr (some ⟨g, 0, none⟩) 3 (encs (Value.int .i64) os) := .inr ⟨g, cur, rfl, hg, hcur⟩
      have hc1 := (blk_cell hx5 1).trans (show _ = some (.int .i64 cl) from rfl)
      have hG5 : Gl wr := hG.below (by rw [hn0]; exact hb0.trans hb5)
      have hlen : (pre1 ++ (os.take j).map (mkB a cl)).length < 9 * xs.length := by
       rw [HPR.out, List.length_append, List.length_append, List.length_map, List.length_take]
       have := HLE.out; have := HLT.out; have := huge_len a k mn_; omega
      have hto : (os.take (j + 1)).map (mkB a cl) = (os.take j).map (mkB a cl) ++ [mkB a cl os[j]] := by rw [List.take_succ_eq_append_getElem hjl, List.map_append]; rfl
      have HTO := Aside0.mk hto
      have HBK : Aside0 (blkOne a ⟨k, cl, ln, mn_, bt⟩ = huge a k mn_ ++ os.map (mkB a cl)) := ⟨by simp only [blkOne, HOS.out]⟩
      obtain ⟨o, hoj⟩ : ∃ o, os[j] = o := ⟨_, rfl⟩
      rw [hoj] at hcell HTO
      clear hto hg hcur hoj
      gi_wp2_with (refine ⟨trivial, ?_⟩; gi_at_call 97; refine (callsIn_wide.2 ((class_Block.calls cl (blockW cl) _ rfl) hG5)).mono ?_; rintro e w' ⟨rfl, ⟨nd, rfl⟩⟩; obtain ⟨fn, tmps, assign, body, hy, hR⟩ := hY _ (mkB a cl o) (wr.drewN nd) (hJ _ _ _ none hJ5 (below_grown (pw_below_drewN (Below.refl _ _) nd)) (by simp)) hlen; dsimp only [mkB] at hy hR)
      refine hR.mono ?_
      rintro e W6 (⟨rfl, hJ6, hk6⟩ | ⟨rfl, hJx6⟩)
      ·gi_wp2
       go_roundw
       case rel => exact ⟨j + 1, by omega, by go_num, by rw [HTO.out, ← List.append_assoc]; exact hJ6, (pw_below_drewN hb5 nd).trans hk6.1.1, hk6.1.2 _ _ _ hx5, RowAt.keep (W := wr.drewN nd) hr6 hk6.2, ChRow.keep (W := wr.drewN nd) hC5 hk6.1⟩
       case measure => simp [intOf]; omega
      ·gi_wp2
       simp only [Exit.noGoto]
       go_end0
       refine ⟨⟨_, rfl⟩, .inr ⟨_, ?_, hJx6⟩⟩
       have e1 : pre1 ++ (os.take j).map (mkB a cl) ++ [mkB a cl o] = pre0 ++ (huge a k mn_ ++ (os.take (j + 1)).map (mkB a cl)) := by rw [HPR.out, HTO.out]; simp
       have e2 := HPX.out (huge a k mn_ ++ (os.take (j + 1)).map (mkB a cl)) (by rw [HBK.out]; exact ⟨(os.drop (j + 1)).map (mkB a cl), by rw [List.append_assoc, ← List.map_append, List.take_append_drop]⟩)
       rw [← e1] at e2
       exact e2
     ·obtain rfl : j = os.length := by omega
      gi_wp2
      go_roundw
      case rel =>
       refine ⟨a + 1, by have := HLT.out; omega, by go_num, ?_, hb5, hC5⟩
       rw [List.take_length, HPR.out] at hJ5
       rw [HT'.out]
       simpa [blkOne, HOS.out] using hJ5
      case measure => simp [intOf]; have := HLT.out; omega
  ·obtain rfl : a = xs.length := by omega
   gi_wp2
   simp only [Exit.noGoto]
   go_end0
   exact ⟨⟨_, rfl⟩, .inl ⟨_, rfl, by rw [List.take_length] at hJs; exact hJs⟩⟩
theorem te_stops (n : Nat) (hn : 1 ≤ n) (Bs : Nat) (A : Option Addr) (cap : Nat) (xs : List S114) (hxs : xs.length ≤ 1048576)
  (w0 w : World) (hG : Gl w0) (hb0 : Below w0.heap.size w0 w) (hC : ChRow w A xs) (hBs : w.cell? ⟨Bs, 0, none⟩ = some (.slice A xs.length cap)) :
  SeqStopsK Fence.wide n Tryz.prog 94 #[.pointer (some ⟨Bs, 0, none⟩)] (fun x : S61 => #[Value.agg #[.int .i64 x.f0, .int .i64 x.f1, .int .i64 x.f2]]) (KeepC w0.heap.size) (fun ys => ys = blkAll xs) (fun pre => pre <+: blkAll xs) (9 * xs.length) w := by
 intro l J Jx W hW hJ _ hY h0
 exact te_yields n hn l Bs w0.heap.size A cap xs hxs w0 rfl hG J Jx W (hC.below hW) (hb0.trans (hW.mono hb0.size)) hJ hY (pw_cell_below hW hBs) h0
set_option maxHeartbeats 2000000 in
theorem te_each (k : Nat) (A0 : Option Addr) (c0 : Nat) (l0 : List Int) (r1 : List S114) (r2 : Bool) (w : World) (hG : Gl w) (hr0 : Kd.C (Kd.int .u64) w A0 l0.length l0) (hc0 : l0.length ≤ c0) (h : tile_Chunks.f k l0 = some (r1, r2)) :
  Calls Tryz.prog 72 #[.slice A0 l0.length c0] w fun e w' => ∃ A cap g, e = .returned (.func (.func 94) #[] #[.pointer (some ⟨g, 0, none⟩)]) ∧ w'.cell? ⟨g, 0, none⟩ = some (.slice A r1.length cap) ∧ ChRow w' A r1 ∧ Below w.heap.size w w' := by
 have hch : Calls Tryz.prog 91 #[.slice A0 l0.length c0] w _ := (tile_Chunks.calls k A0 c0 l0 r1 r2 w hr0 hc0 h) hG
 have HCH := Aside0.mk hch
 clear hch hr0 h hG
 go_enter Tryz.func72, Tryz.ntmps72
 go_wp2_with (go_at_call 91; refine HCH.out.mono ?_; rintro e w1 ⟨v0, rfl, hR, hb⟩; obtain ⟨A, cap, rfl⟩ := Kd.R_slice hR)
 go_ret
 have hCh : ChRow w1 (A) r1 := by
  obtain ⟨_, inner, ho, hr⟩ := hR
  obtain ⟨A', cap', e, hrow⟩ := own_form5 ho
  injection e with e1 _ _
  subst e1
  exact ⟨inner, hr.imp_ (fun _ _ hp => k114_openM hp), hrow⟩
 exact ⟨A, cap, w1.heap.size, rfl, by simp, hCh.below ((Below.refl _ _).alloc (Nat.le_refl _) _), below_step hb ((Below.refl _ _).alloc (Nat.le_refl _) _)⟩
noncomputable def encsB (xs : List S61) : List Value := xs.flatMap fun x => [.int .i64 x.f0, .int .i64 x.f1, .int .i64 x.f2]
theorem encsB_snoc (xs : List S61) (x : S61) : encsB (xs ++ [x]) = encsB xs ++ [.int .i64 x.f0, .int .i64 x.f1, .int .i64 x.f2] := by simp [encsB]
theorem repsB (W : World) (base : Nat) (ok : Nat → Prop) : ∀ xs : List S61, Reps (k61.M W base ok) 3 xs (encsB xs)
 | [] => Reps.none _ _
 | x :: xs => by
  have ih := repsB W base ok xs
  have e : encsB (x :: xs) = .int .i64 x.f0 :: .int .i64 x.f1 :: .int .i64 x.f2 :: encsB xs := by simp [encsB]
  refine ⟨by rw [e]; simp only [List.length_cons, ih.1]; omega, fun j p hj => ?_⟩
  cases j with
  | zero =>
   simp only [List.getElem?_cons_zero, Option.some.injEq] at hj
   subst hj
   rw [e]
   exact k61_mkM W base ok x
  | succ j =>
   have h := ih.2 j p (by simpa using hj)
   rw [e, show (j + 1) * 3 = j * 3 + 1 + 1 + 1 by omega, List.drop_succ_cons, List.drop_succ_cons, List.drop_succ_cons]
   exact h
theorem cell_three_new (w : World) (x y z : Value) (t : TypeId) : ∀ j u, [x, y, z][j]? = some u → (w.alloc (.cells #[x, y, z] t)).cell? ((⟨w.heap.size, 0, none⟩ : Addr).add j) = some u := by
 intro j u hj
 match j, hj with
 | 0, hj => simp at hj; subst hj; simp [Addr.add]
 | 1, hj => simp at hj; subst hj; simp [Addr.add]
 | 2, hj => simp at hj; subst hj; simp [Addr.add]
 | j + 3, hj => simp at hj
theorem KeepC.trans {n₀ : Nat} {A B C : World} (h : KeepC n₀ A B) (k : KeepC n₀ B C) : KeepC n₀ A C := ⟨h.1.trans k.1, h.2.trans k.2⟩
theorem KeepC.put {n₀ : Nat} {w : World} (hn : n₀ ≤ w.heap.size) (W : World) (l : Nat) (o o' : Obj) (hl : w.heap.size ≤ l) (h : W.heap[l]? = some o) (hc : o.isCells = false) (hw : o.isWalk = false) : KeepC n₀ W (W.putObj l o') :=
 ⟨KeepT.put hn W l o o' hl h hc hw, KeepT.put hn W l o o' hl h hc hw⟩
theorem KeepC.alloc {n₀ : Nat} {W : World} (hn : n₀ ≤ W.heap.size) (o : Obj) : KeepC n₀ W (W.alloc o) :=
 ⟨KeepT.of_below ((Below.refl _ _).alloc (Nat.le_refl _) _) hn, KeepT.of_below ((Below.refl _ _).alloc (Nat.le_refl _) _) hn⟩
theorem tb_info : (Tryz.prog.info? 61).map (fun i => (i.zero, i.size, i.bytes)) = some (some (.agg #[.int .i64 0, .int .i64 0, .int .i64 0]), 3, 24) := by kernel_rfl
set_option maxRecDepth 100000 in
set_option maxHeartbeats 4000000 in
theorem tb_in (n : Nat) (hn : 3 ≤ n) (k : Nat) (A0 : Option Addr) (c0 : Nat) (l0 : List Int) (r1 : List S114) (r2 : Bool) (w : World) (hG : Gl w) (hr0 : Kd.C (Kd.int .u64) w A0 l0.length l0) (hc0 : l0.length ≤ c0) (h : tile_Chunks.f k l0 = some (r1, r2)) (hxs : r1.length ≤ 1048576) :
  CallsIn Fence.wide n Tryz.prog 38 #[.slice A0 l0.length c0] w fun e W' => ∃ v, e = .returned v ∧ W'.ownsRow w.heap.size 61 3 v (blkAll r1).length (encsB (blkAll r1)) ∧ Below w.heap.size w W' := by
 have hn1 : 1 ≤ n := by omega
 have hN := blkAll_take_len r1 r1.length (Nat.le_refl _)
 rw [List.take_length] at hN
 obtain ⟨i0, hi, hz0, hz1, hz2⟩ := info_parts tb_info
 have hte := fun W (hb : Below w.heap.size w W) => te_each k A0 c0 l0 r1 r2 W (hG.below hb) (Kd.C_below hr0 hb) hc0 h
 have HTE := Aside0.mk hte
 clear hte
 refine callsIn_of_wp_marks Tryz.func38 rfl trivial ?_ rfl
 simp only [Tryz.ntmps38, List.size_toArray, List.length_cons, List.length_nil, Nat.reduceAdd, Nat.reduceSub, Array.replicate_succ, Array.replicate_zero, List.push_toArray, List.append_toArray, List.nil_append, List.cons_append]
 have b0 := Boxed.new w 53 (.slice none 0 0)
 have hB0 : Below w.heap.size w (w.alloc (.cells #[.slice none 0 0] 53)) := (Below.refl _ w).alloc (Nat.le_refl _) _
 gi_wp2_with (refine ⟨trivial, ?_⟩; gi_at_call 72; refine (callsIn_wide.2 (HTE.out _ hB0)).mono ?_; rintro e w1 ⟨A, cap, g, rfl, hcg, hCg, hb1⟩)
 have hB1 : Below w.heap.size w w1 := hB0.trans (hb1.mono (by simp))
 have b1 : Boxed w1 w.heap.size 53 (.slice none 0 0) := blk_below b0 hb1
 refine wpIn_rangeFunc_ownH rfl hn1 (gf := 94) (lb := #[.pointer (some ⟨g, 0, none⟩)]) rfl trivial (enters_of Tryz.func94 (by kernel_rfl) rfl)
  (te_stops (n - 1) (by omega) g A cap r1 hxs w w1 hG hB1 hCg hcg) (fun h k => KeepC.trans h k) (KeepC.put hB1.size) (Below.refl _ _) (fun _ => rfl)
  (fun pre W => (∃ v, Boxed W w.heap.size 53 v ∧ W.ownsRow w.heap.size 61 3 v pre.length (encsB pre) ∧ True) ∧ Below w.heap.size w W)
  (fun _ _ _ => False)
  (OwnFrom.and (Own.from (holdsRow_own w.heap.size w.heap.size 53 61 3 (fun (pre : List S61) => pre.length) encsB (fun _ _ => True)) _) (ownFrom_below (Nat.le_refl _) hB1.size))
  (fun _ _ _ _ _ hs _ _ => hs)
  ⟨⟨_, b1, World.ownsRow_nil _ _ _ _, trivial⟩, hB1⟩
  (fun x a' W => ∃ bb, a' = { tmps := #[.slice A0 l0.length c0, undef, .slice none 0 0, .pointer (some ⟨w.heap.size, 0, none⟩), .pointer (some ⟨bb, 0, none⟩), .slice A0 l0.length c0, .func (.func 94) #[] #[.pointer (some ⟨g, 0, none⟩)], .agg #[.int .i64 x.f0, .int .i64 x.f1, .int .i64 x.f2], undef, undef, undef, undef, undef], defers := [] } ∧ W.heap[bb]? = some (.cells #[.int .i64 x.f0, .int .i64 x.f1, .int .i64 x.f2] 61 (0, 0)) )
  ?hAx ?assign ?body ?done ?stop
 case hAx =>
  rintro x a' _ W W' row ⟨bb, e1, e2⟩ hg hr
  refine ⟨bb, e1, (hg.block bb (Array.getElem?_eq_some_iff.1 e2).1 (fun e => ?_)).trans e2⟩
  obtain ⟨_, o, ho, hc⟩ := hr bb e.symm
  rw [e2] at ho; cases ho; cases hc
 case assign =>
  rintro l pre x W K hI hK
  have hK2 := Aside0.mk hK
  clear hK
  gi_wp2
  obtain ⟨⟨v, hv, hrow, _⟩, hB⟩ := hI
  exact hK2.out _ _ ((KeepsOthers.alloc W _).from _) (KeepC.alloc hB.size _) ⟨⟨v, hv.alloc _, hrow.alloc _, trivial⟩, hB.alloc hB.size _⟩ ⟨W.heap.size, rfl, blk_new _ _⟩
 case body =>
  rintro l pre x a' W _ _ ⟨⟨v, hv, hrow, _⟩, hB⟩ ⟨bb, rfl, hbb⟩ hlt
  have hc := hv.cell
  have hx0 := (blk_cell hbb 0).trans (show _ = some (.int .i64 x.f0) from rfl)
  have hx1 := (blk_cell hbb 1).trans (show _ = some (.int .i64 x.f1) from rfl)
  have hx2 := (blk_cell hbb 2).trans (show _ = some (.int .i64 x.f2) from rfl)
  gi_wp2_with (gi_at_builtin; refine wpListIn_append_own _ rfl _ _ 53 rfl w.heap.size 61 i0 (.agg #[.int .i64 0, .int .i64 0, .int .i64 0]) 3 24 Tryz.underlying53 hi hz0 hz1 hz2 rfl (by decide) _ _ _ rfl (hrow.alloc _) ⟨W.heap.size, 0, none⟩ 1 1 [.int .i64 x.f0, .int .i64 x.f1, .int .i64 x.f2] rfl rfl (cell_three_new _ _ _ _ _) (by simp [Value.oneCell']) (by simp only [maxLen]; omega) (by omega) (by have := hB.size; have := (Array.getElem?_eq_some_iff.1 hbb).1; simp; omega) ?_; intro v' w2 hown' hgrow _; obtain ⟨g', cap', rfl⟩ := ownsRow_succ hown'; obtain ⟨hv1, hv2, hr2, hk2, hb2⟩ := hv.appended (by decide) hrow hB.size (Nat.le_refl _) hown' hgrow; have hkt := keepT_appended (t := 114) hv (by decide) hrow (by decide) hgrow hb2; have hkt2 := keepT_appended (t := 3) hv (by decide) hrow (by decide) hgrow hb2; have hc1 := hv1.cell; have hf1 := hv1.frozen)
  exact ⟨hk2.from _, ⟨hkt, hkt2⟩, ⟨⟨_, hv2, by rw [encsB_snoc]; simpa using hr2, trivial⟩, hB.trans hb2⟩⟩
 case done =>
  rintro D ys W hD rfl ⟨⟨v, hv, hrow, _⟩, hB⟩ hK
  have hc := hv.cell
  gi_wp2
  refine ⟨by simp, .inl ⟨_, _, rfl, run_takeDeferred hK, ?_⟩⟩
  exact ⟨_, results_tmp rfl _ _ _, v, rfl, ownsRow_putObj hrow _ hK rfl, hB.trans (belowK_b (w := w1) hB1.size W D _ _ hD hK rfl rfl)⟩
 case stop =>
  rintro D c pre W _ _ h _
  exact h.elim
noncomputable def tile_Blocks.f (k : Nat) (l0 : List Int) : Option (List S61) := (tile_Chunks.f k l0).bind fun x => if x.1.length ≤ 1048576 then some (blkAll x.1) else none
theorem tile_Blocks.calls (k : Nat) (A0 : Option Addr) (c0 : Nat) (l0 : List Int) (r : List S61) (w : World) (hr0 : Kd.C (Kd.int .u64) w A0 l0.length l0) (hc0 : l0.length ≤ c0) (h : tile_Blocks.f k l0 = some r) :
  CallsG 38 #[.slice A0 l0.length c0] w fun e w' => ∃ v0_ : Value, e = .returned v0_ ∧ Kd.R k61 61 w' w.heap.size (fun _ => True) v0_ r ∧ Below w.heap.size w w' := by
 intro hG
 unfold tile_Blocks.f at h
 obtain ⟨⟨r1, r2⟩, hx, h⟩ := Option.bind_eq_some_iff.mp h
 split at h
 case isFalse => cases h
 case isTrue hf =>
 cases h
 refine ((callsIn_wide (n := 3)).1 (tb_in 3 (Nat.le_refl _) k A0 c0 l0 r1 r2 w hG hr0 hc0 hx hf)).mono ?_
 rintro e W' ⟨v, rfl, ho, hb⟩
 exact ⟨v, rfl, ⟨fun _ _ => trivial, _, ho, repsB _ _ _ _⟩, hb⟩
end Go.Proofs.YtbbpcbjgekencaaGreatDoor.H
end
section
set_option linter.unusedVariables false
set_option linter.unusedSimpArgs false
set_option linter.unusedVariables false
set_option linter.unusedSimpArgs false
set_option maxRecDepth 100000
noncomputable section
namespace Go.Proofs.YtbbpcbjgekencaaGreatDoor.FT
open Go Go.Proofs.YtbbpcbjgekencaaGreatDoor Go.Proofs.YtbbpcbjgekencaaGreatDoor.Ev Go.Proofs.YtbbpcbjgekencaaGreatDoor.Q
open Go.IntKind (i64 u64 u32)
variable (g : List (Nat × Nat × Value))
noncomputable def tile_Blocks.f (k : Nat) (a0 : List Int) : Option (List S61) := if a0.length ≤ 9223372036854775807 then H.tile_Blocks.f k a0 else none
noncomputable def tile_Blocks.F : EvForm Γ := mkF [] [tc (qf 33)] [] (tc (qo 0)) [(0, qr 61)] tile_Blocks.f
theorem tile_Blocks.ok : CallOk T Tryz.prog 38 tile_Blocks.F.fn := by
 refine hand_ok Tryz.func38 (by kernel_rfl) (by kernel_rfl) _ rfl (fun k ats r hf E A w vals hv hg => ?_) (tab_ok gl0)
 have hf : tile_Blocks.f k (aL (Γ := Γ) 33 ats 0) = some r := hf
 unfold tile_Blocks.f at hf
 generalize hx0 : (aL (Γ := Γ) 33 ats 0) = x0 at hf
 split at hf
 case isFalse => cases hf
 rename_i hlen
 have hlen0 := hlen
 have hv : ConcAs T E (SB T w (Ev.Own (T := T) E []) A E [] w) w [.t (.cell (.sl .far 33 x0))] vals := by subst hx0; have := hv; exact this
 obtain ⟨u0, _, rfl, h0, hv1⟩ := concAs_uncons hv
 obtain ⟨A0, c0, rfl, hc0, hC0, hB0⟩ := (fl33 gl0).C_of (tab_ok gl0) (concA_cell h0) hlen0
 obtain rfl := concAs_unnil hv1
 have hc := H.tile_Blocks.calls k _ _ x0 r w hC0 hc0 hf
 have hc := hc (H.gl_of hg)
 refine hc.mono fun e w' h => ?_
 obtain ⟨v, rfl, hR, hb⟩ := h
 obtain ⟨m1, m2⟩ := (fl61 gl0).row_mem (tab_ok gl0) hR
 exact ⟨_, rowEnv v, rfl, hb, .t (.cell (.own 0)), m1, m2⟩
noncomputable def tile_Blocks.o : FnOk T Tryz.prog := ⟨38, tile_Blocks.F, tile_Blocks.ok⟩
end Go.Proofs.YtbbpcbjgekencaaGreatDoor.FT
end
section
set_option linter.unusedVariables false
set_option linter.unusedSimpArgs false
set_option linter.unusedVariables false
set_option linter.unusedSimpArgs false
set_option maxRecDepth 100000
noncomputable section
namespace Go.Proofs.YtbbpcbjgekencaaGreatDoor.FT
open Go Go.Proofs.YtbbpcbjgekencaaGreatDoor Go.Proofs.YtbbpcbjgekencaaGreatDoor.Ev Go.Proofs.YtbbpcbjgekencaaGreatDoor.Q
open Go.IntKind (i64 u64 u32)
variable (g : List (Nat × Nat × Value))
def geo_can.f (k : Nat) (a0_0 a0_1 : Int) : Option Bool := (if decide (a0_1 ≥ 1) = true then (if decide (a0_1 ≤ 64) = true then (if decide (a0_0 ≥ 1) = true then (some (decide (a0_0 ≤ 65536))) else (some (false))) else (some (false))) else (some (false)))
def geo_can.o : FnOk (Tg g) Tryz.prog := mkO (tab_ok g) 106 Tryz.func106 [] [] [ta [qI, qI]] [] (tc qB) [] geo_can.f []
def geo_logs.f (k : Nat) (a0_0 a0_1 : Int) : Option Int := (some (i64.wrap (10 + a0_1)))
def geo_logs.o : FnOk (Tg g) Tryz.prog := mkO (tab_ok g) 114 Tryz.func114 [] [] [ta [qI, qI]] [] (tc qI) [] geo_logs.f []
def geo_table.f (k : Nat) (a0_0 a0_1 : Int) : Option Int := ((geo_logs.f k a0_0 a0_1).bind fun y0 => (some (i64.wrap (y0 + i64.wrap (a0_1 * 72)))))
def geo_table.o : FnOk (Tg g) Tryz.prog := mkO (tab_ok g) 98 Tryz.func98 [geo_logs.o g] [] [ta [qI, qI]] [] (tc qI) [] geo_table.f []
def geo_Chunks.f (k : Nat) (a0_0 a0_1 : Int) : Option Int := ((geo_can.f k a0_0 a0_1).bind fun y0 => (if (!y0) = true then (some (0)) else ((geo_table.f k a0_0 a0_1).bind fun y1 => (some (mx 0 (i64.wrap ((i64.wrap (a0_0 - y1)).tdiv 33)))))))
def geo_Chunks.o : FnOk (Tg g) Tryz.prog := mkO (tab_ok g) 85 Tryz.func85 [geo_can.o g, geo_table.o g] [] [ta [qI, qI]] [] (tc qI) [] geo_Chunks.f []
def geo_Right.f (k : Nat) (a0_0 a0_1 : Int) : Option Bool := ((geo_Chunks.f k a0_0 a0_1).bind fun y0 => (some (decide (y0 > 0))))
def geo_Right.o : FnOk (Tg g) Tryz.prog := mkO (tab_ok g) 87 Tryz.func87 [geo_Chunks.o g] [] [ta [qI, qI]] [] (tc qB) [] geo_Right.f []
def geo_Table.f (k : Nat) (a0_0 a0_1 : Int) : Option (Int × Int) := ((geo_Right.f k a0_0 a0_1).bind fun y0 => (if (!y0) = true then (some (0, 0)) else ((geo_table.f k a0_0 a0_1).bind fun y1 => ((geo_Chunks.f k a0_0 a0_1).bind fun y2 => (some (y1, y2))))))
def geo_Table.o : FnOk (Tg g) Tryz.prog := mkO (tab_ok g) 73 Tryz.func73 [geo_Right.o g, geo_table.o g, geo_Chunks.o g] [] [ta [qI, qI]] [] (ta [qI, qI]) [] geo_Table.f []
def sound_pool_table.f (k : Nat) (a0_0 : List Int) (a0_1 a0_2 : Int) : Option (List Int) := ((geo_Table.f k a0_1 a0_2).bind fun y0 => (if 0 ≤ y0.fst then (if y0.fst ≤ i64.wrap (y0.fst + y0.snd) then (if i64.wrap (y0.fst + y0.snd) ≤ (a0_0.length : Int) then (some (List.drop y0.fst.toNat (List.take (i64.wrap (y0.fst + y0.snd)).toNat a0_0))) else none) else none) else none))
def sound_pool_table.o : FnOk (Tg g) Tryz.prog := mkO (tab_ok g) 39 Tryz.func39 [geo_Table.o g] [] [ta [(qf 33), qI, qI]] [] (tc (qf 33)) [] sound_pool_table.f []
def geo_heap.f (k : Nat) (a0_0 a0_1 : Int) : Option Int := ((geo_table.f k a0_0 a0_1).bind fun y0 => ((geo_Chunks.f k a0_0 a0_1).bind fun y1 => (some (i64.wrap (y0 + y1)))))
def geo_heap.o : FnOk (Tg g) Tryz.prog := mkO (tab_ok g) 86 Tryz.func86 [geo_table.o g, geo_Chunks.o g] [] [ta [qI, qI]] [] (tc qI) [] geo_heap.f []
def geo_Chunk.f (k : Nat) (a0_0 a0_1 a1 : Int) : Option (Int × Int) := (if decide (a1 < 0) = false then ((geo_Chunks.f k a0_0 a0_1).bind fun y0 => (if decide (a1 ≥ y0) = true then (some (0, 0)) else ((geo_heap.f k a0_0 a0_1).bind fun y1 => (some (i64.wrap (y1 + i64.wrap (a1 * 32)), 32))))) else (some (0, 0)))
def geo_Chunk.o : FnOk (Tg g) Tryz.prog := mkO (tab_ok g) 60 Tryz.func60 [geo_Chunks.o g, geo_heap.o g] [] [ta [qI, qI], tc qI] [] (ta [qI, qI]) [] geo_Chunk.f []
def sound_Place.f (k : Nat) (a0_0 a0_1 a1_0 a1_1 a1_2 : Int) : Option Int := ((geo_Chunk.f k a0_0 a0_1 a1_0).bind fun y0 => (some (i64.wrap (y0.fst + i64.wrap (a1_1 * a1_2)))))
def sound_Place.o : FnOk (Tg g) Tryz.prog := mkO (tab_ok g) 26 Tryz.func26 [geo_Chunk.o g] [] [ta [qI, qI], ta [qI, qI, qI]] [] (tc qI) [] sound_Place.f []
def sound_pool_root.c4 : Nat → Int → Int → Int → Int → Int → List S61 → Option Bool
 | 0, _, _, _, _, _, _ => none
 | k + 1, a, b, c, d, e, g => (if decide (c < b) = true then (if 0 ≤ c then (if c < (g.length : Int) then (if c.toNat < g.length then ((sound_Place.f k d e (g.getD c.toNat z61).f0 (g.getD c.toNat z61).f1 (g.getD c.toNat z61).f2).bind fun y2 => (if (u64.wrap y2 == a) = true then (some (true)) else (sound_pool_root.c4 k (a) (b) (i64.wrap (c + 1)) (d) (e) (g)))) else none) else none) else none) else (some (a == 0)))
def sound_pool_root.f (k : Nat) (a0_0 : List Int) (a0_1 a0_2 : Int) : Option Bool := (if 8 < (a0_0.length : Int) then ((sound_pool_table.f k a0_0 a0_1 a0_2).bind fun y0 => ((tile_Blocks.f k y0).bind fun y1 => (sound_pool_root.c4 k (a0_0.getD (Int.toNat 8) 0) ((y1.length : Int)) (0) (a0_1) (a0_2) (y1)))) else none)
def sound_pool_root.o : FnOk T Tryz.prog := mkO (tab_ok gl0) 66 Tryz.func66 [tile_Blocks.o, sound_pool_table.o gl0, sound_Place.o gl0] [] [ta [(qf 33), qI, qI]] [] (tc qB) [] sound_pool_root.f [mkC Bool 4 28 [(1, tc (qb 0)), (3, tc qU), (12, tc (qo 1)), (13, tc qI), (14, tc qI)] [(0, .box 73 [qf 33, qI, qI]), (1, qr 61)] 0 [0, 1, 2, 4, 5, 6] sound_pool_root.c4]
def oid_Right.f (k : Nat) (a0_0 a0_1 a0_2 : Int) : Option Bool := (if decide (a0_0 ≥ 1) = true then (if decide (a0_0 ≤ 65535) = true then (if decide (a0_1 ≥ 0) = true then (if decide (a0_1 ≤ 4096) = true then (some (a0_2 != 0)) else (some (false))) else (some (false))) else (some (false))) else (some (false)))
def oid_Right.o : FnOk (Tg g) Tryz.prog := mkO (tab_ok g) 100 Tryz.func100 [] [] [ta [qI, qI, qU]] [] (tc qB) [] oid_Right.f []
def oid_first.f (k : Nat) (a0_0 a0_1 a0_2 : Int) : Option Int := ((field_Put.f k 18038886832455811072 0 16 (u64.wrap a0_0)).bind fun y0 => ((field_Put.f k y0 16 16 (u64.wrap a0_1)).bind fun y1 => (some (y1))))
def oid_first.o : FnOk (Tg g) Tryz.prog := mkO (tab_ok g) 101 Tryz.func101 [field_Put.o g] [] [ta [qI, qI, qU]] [] (tc qU) [] oid_first.f []
def oid_Decode.f (k : Nat) (a0 : List Int) : Option (Int × Int × Int × Bool) := (if decide ((a0.length : Int) < 2) = true then (some (0, 0, 0, false)) else (if 0 < (a0.length : Int) then ((field_Get.f k (a0.getD (Int.toNat 0) 0) 0 16).bind fun y0 => (if 0 < (a0.length : Int) then ((field_Get.f k (a0.getD (Int.toNat 0) 0) 16 16).bind fun y1 => (if 1 < (a0.length : Int) then ((oid_Right.f k (i64.wrap y0) (i64.wrap y1) (a0.getD (Int.toNat 1) 0)).bind fun y2 => (if (!y2) = false then ((oid_first.f k (i64.wrap y0) (i64.wrap y1) (a0.getD (Int.toNat 1) 0)).bind fun y3 => (if 0 < (a0.length : Int) then (if (y3 != a0.getD (Int.toNat 0) 0) = true then (some (0, 0, 0, false)) else (some (i64.wrap y0, i64.wrap y1, a0.getD (Int.toNat 1) 0, true))) else none)) else (some (0, 0, 0, false)))) else none)) else none)) else none))
def oid_Decode.o : FnOk (Tg g) Tryz.prog := mkO (tab_ok g) 74 Tryz.func74 [field_Get.o g, oid_Right.o g, oid_first.o g] [] [tc (qf 33)] [] (.tup [.agg [qI, qI, qU], .cell qB]) [] oid_Decode.f []
end Go.Proofs.YtbbpcbjgekencaaGreatDoor.FT
end
section
set_option linter.unusedVariables false
set_option linter.unusedSimpArgs false
set_option linter.unusedVariables false
set_option linter.unusedSimpArgs false
set_option maxRecDepth 100000
noncomputable section
namespace Go.Proofs.YtbbpcbjgekencaaGreatDoor.FT
open Go Go.Proofs.YtbbpcbjgekencaaGreatDoor Go.Proofs.YtbbpcbjgekencaaGreatDoor.Ev Go.Proofs.YtbbpcbjgekencaaGreatDoor.Q
open Go.IntKind (i64 u64 u32)
variable (g : List (Nat × Nat × Value))
noncomputable def class_Block.f (k : Nat) (a0 : Int) : Option (Int) := H.class_Block.f a0
noncomputable def class_Block.F : EvForm Γ := mkF [] [tc qI] [] (tc qI) [] class_Block.f
theorem class_Block.ok : CallOk T Tryz.prog 97 class_Block.F.fn := by
 refine hand_ok Tryz.func97 (by kernel_rfl) (by kernel_rfl) _ rfl (fun k ats r hf E A w vals hv hg => ?_) (tab_ok gl0)
 have hf : class_Block.f k (aI ats 0) = some r := hf
 unfold class_Block.f at hf
 generalize hx0 : (aI ats 0) = x0 at hf
 have hv : ConcAs T E (SB T w (Ev.Own (T := T) E []) A E [] w) w [.t (.cell (.c (.int .i64 x0)))] vals := by subst hx0; have := hv; exact this
 obtain ⟨u0, _, rfl, h0, hv1⟩ := concAs_uncons hv
 obtain rfl := conc_c (concA_cell h0)
 obtain rfl := concAs_unnil hv1
 have hc := H.class_Block.calls x0 r w  hf
 have hc := hc (H.gl_of hg)
 refine hc.mono fun e w' h => ?_
 obtain ⟨rfl, hb⟩ := h
 exact ⟨_, E, rfl, hb.below, ofValue_conc _ _ rfl, memOk_nil, fun q h => absurd h own_none⟩
noncomputable def class_Block.o : FnOk T Tryz.prog := ⟨97, class_Block.F, class_Block.ok⟩
end Go.Proofs.YtbbpcbjgekencaaGreatDoor.FT
end
