import Derived.Test.YtbbpcbjgekencaaGreatDoorM15
import Derived.ChangeSame
import Derived.ChangeVars
import Derived.Deep.Fields
import Derived.Deep.Slices
import Derived.JoinedOf
import Derived.LaidLaws
import Derived.SizedLaws
import Derived.Test.YtbbpcbjgekencaaGreatDoorRows
import Derived.WideShapes
section
set_option linter.unusedVariables false
set_option linter.unusedSimpArgs false
set_option linter.unusedVariables false
set_option linter.unusedSimpArgs false
namespace Go.Proofs.YtbbpcbjgekencaaGreatDoor.PS
open Go Go.Proofs.YtbbpcbjgekencaaGreatDoor.Q Go.Proofs.YtbbpcbjgekencaaGreatDoor.FT Go.Proofs.YtbbpcbjgekencaaGreatDoor.Ev
def Tot (W : Int) (g : Nat → Option (List Int)) : Prop := ∃ r, Evt g r ∧ U64 r ∧ (r.length : Int) = W
theorem Tot.step {W : Int} {g f : Nat → Option (List Int)} (h : ∀ k, g (k + 1) = f k) (t : Tot W f) : Tot W g := let ⟨r, h1, h2⟩ := t; ⟨r, Evt.step h h1, h2⟩
theorem Tot.congr {W : Int} {g f : Nat → Option (List Int)} (t : Tot W f) (h : ∀ k, g k = f k) : Tot W g := let ⟨r, h1, h2⟩ := t; ⟨r, Evt.congr h1 h, h2⟩
theorem Tot.bind {α : Type} {W : Int} {g : Nat → Option α} {f : Nat → α → Option (List Int)} {a : α} (h : Evt g a) (t : Tot W fun k => f k a) : Tot W (fun k => (g k).bind (f k)) := let ⟨r, h1, h2⟩ := t; ⟨r, Evt.bind h h1, h2⟩
def SplOk (s : Spl) : Prop := (0 ≤ s.f0 ∧ s.f0 ≤ 65535) ∧ Wd s.f1
def EntOk (e : Ent) : Prop := U64 e.f1 ∧ e.f1.length ≤ 20
def ItmOk (x : Itm) : Prop := (0 ≤ x.f0 ∧ x.f0 ≤ 255) ∧ (0 ≤ x.f1 ∧ x.f1 ≤ 255) ∧ Wd x.f2 ∧ (∀ e ∈ x.f3, EntOk e) ∧ x.f3.length ≤ 12 ∧ (∀ o ∈ x.f4, Wd o.f2) ∧ x.f4.length ≤ 22
section
variable {W l : Int}
theorem make45 {x : List Int} (hx : U64 x) (hxl : (x.length : Int) = W) : Tot W (fun k => r15_Make.c45 k x) :=
 ⟨x, Evt.step (f := fun _ => some x) (fun k => by rw [r15_Make.c45]) (Evt.some _), hx, hxl⟩
theorem make41 (hW : 100 ≤ W ∧ W ≤ 1048576) (P : List Spl) (hP : ∀ s ∈ P, SplOk s) (hPl : P.length ≤ 1048576) : ∀ (d i : Nat) (x : List Int), P.length - i = d → i ≤ P.length → U64 x → (x.length : Int) = W → Tot W (fun k => r15_Make.c41 k (i : Int) P x) := by
 intro d
 induction d with
 | zero =>
  intro i x hd hi hx hxl
  obtain rfl : i = P.length := by omega
  by_cases h0 : P.length = 0
  ·exact Tot.step (fun k => by rw [r15_Make.c41, if_neg (by simp), if_neg (by rw [decide_eq_true_eq]; omega)]) (make45 hx hxl)
  ·by_cases h2 : ((P.getD (Int.toNat 0) z35).f0.tmod 2 == 0) = true
   ·have h7 : U64 (List.drop (Int.toNat 0) (List.take (Int.toNat 7) x)) := fun y hy => hx y (List.mem_of_mem_take (List.mem_of_mem_drop hy))
    refine Tot.step (f := fun k => (r02_Of.f k (List.drop (Int.toNat 0) (List.take (Int.toNat 7) x))).bind fun y12 => (if 7 < (x.length : Int) then (if Int.toNat 7 < x.length then (r15_Make.c45 k (x.set (Int.toNat 7) (IntKind.u64.wrap y12))) else none) else none)) (fun k => by
     rw [r15_Make.c41, if_neg (by simp), if_pos (decide_eq_true (by omega)), if_pos (by omega), if_pos h2, if_pos (by omega)]) ?_
    refine Tot.bind (crc_eq _ h7 (by simp; omega)) ?_
    have hs := sealL_lt (List.drop (Int.toNat 0) (List.take (Int.toNat 7) x))
    refine Tot.congr (make45 (U64_set hx (Int.toNat 7) _ (seal_Wd (List.drop (Int.toNat 0) (List.take (Int.toNat 7) x)))) (by rw [List.length_set]; exact hxl)) (fun k => ?_)
    rw [if_pos (by omega), if_pos (by show 7 < x.length; omega), u64w (by omega) (by omega)]
   ·exact Tot.step (fun k => by rw [r15_Make.c41, if_neg (by simp), if_pos (decide_eq_true (by omega)), if_pos (by omega), if_neg h2]) (make45 hx hxl)
 | succ d ih =>
  intro i x hd hi hx hxl
  have hlt : i < P.length := by omega
  have hs := hP _ (List.getElem_mem hlt)
  have hm : Int.tmod P[i].f0 (x.length : Int) = P[i].f0 % (x.length : Int) := Int.tmod_eq_emod_of_nonneg hs.1.1
  have hm0 := Int.emod_nonneg P[i].f0 (show (x.length : Int) ≠ 0 by omega)
  have hm1 := Int.emod_lt_of_pos P[i].f0 (show (0 : Int) < x.length by omega)
  have hs1 := hs.1
  refine Tot.step (fun k => ?_) (ih (i + 1) (x.set (P[i].f0 % (x.length : Int)).toNat P[i].f1) (by omega) (by omega) (U64_set hx _ _ hs.2) (by rw [List.length_set]; exact hxl))
  rw [r15_Make.c41, if_pos (decide_eq_true (by omega)), if_pos (by omega), if_pos (by omega), if_neg (by omega), gd P i _ hlt, if_pos (by omega), if_pos (by omega), i64w (x := P[i].f0) (by omega) (by omega), hm, if_pos hm0, if_pos hm1, if_pos (by omega), i64w (by omega) (by omega)]
  rfl
variable (hg : Geo W l) (hW : 100 ≤ W ∧ W ≤ 65536) (P : List Spl) (hP : ∀ s ∈ P, SplOk s) (hPl : P.length ≤ 1048576) (I : List Itm) (hI : ∀ x ∈ I, ItmOk x) (hIl : I.length ≤ 1048576)
include hg hW hIl
theorem make35 {i : Nat} (hi : i < I.length) {ln : Int} (h0 : 0 ≤ ln) (h1 : ln < l) {s c g : Int} (hgn : 0 ≤ g) {x : List Int} (hx : U64 x) (hxl : (x.length : Int) = W) (hn : ∀ y, U64 y → (y.length : Int) = W → Tot W (fun k => r15_Make.c17 k ((i + 1 : Nat) : Int) I P W l y)) :
  Tot W (fun k => r15_Make.c35 k (i : Int) ln I P W l x s c g) := by
 have hl := hg.l
 refine Tot.step (f := fun k => (r05_Mark.f k W l ln).bind fun y13 => ((r07_Encode.f k s c g).bind fun y14 => (if 0 ≤ y13 then (if y13 < (x.length : Int) then (if y13.toNat < x.length then (r15_Make.c17 k (IntKind.i64.wrap (i + 1)) I P W l (x.set y13.toNat y14.fst)) else none) else none) else none))) (fun k => by rw [r15_Make.c35]) ?_
 refine Tot.bind (Evt.at 2000 fun k => refMark05 k W l ln hg h0 h1) ?_
 refine Tot.bind (Evt.of fun k => refMEnc_eq k s c g hgn) ?_
 have h1 : 1 ≤ chunksG W l := hg
 refine Tot.congr (hn _ (U64_set hx (10 + ln).toNat _ (encM_Wd s c g hgn)) (by rw [List.length_set]; exact hxl)) (fun k => ?_)
 rw [if_pos (by omega), if_pos (by omega), if_pos (by omega), i64w (by omega) (by omega)]
 rfl
include hI
theorem make24 {i : Nat} (hi : i < I.length) {ln : Int} (h0 : 0 ≤ ln) (h1 : ln < l) {s c g : Int} (hgn : 0 ≤ g) {x : List Int} (hx : U64 x) (hxl : (x.length : Int) = W) (hn : ∀ y, U64 y → (y.length : Int) = W → Tot W (fun k => r15_Make.c17 k ((i + 1 : Nat) : Int) I P W l y)) :
  Tot W (fun k => r15_Make.c24 k (i : Int) ln I P W l x I[i].f4 s c g) := by
 have hl := hg.l
 have ho := hI _ (List.getElem_mem hi)
 by_cases hs : s = 2
 ·refine Tot.step (f := fun k => (r12_Encode.f k I[i].f4).bind fun y9 => ((r05_Redo.f k W l ln).bind fun y10 => ((r15_put.f k y10.fst y9.snd x).bind fun y11 => (r15_Make.c35 k i ln I P W l y11 s (mn (I[i].f4.length : Int) 19) g)))) (fun k => by rw [r15_Make.c24, if_pos (by simpa using hs)]) ?_
  obtain ⟨e1, e2⟩ := encR_ok ho.2.2.2.2.2.1
  refine Tot.bind (refREnc_eq _ ho.2.2.2.2.2.1) ?_
  refine Tot.bind (Evt.at 2000 fun k => refRedo05 k W l ln hg h0 h1) ?_
  have hch : 1 ≤ chunksG W l := hg
  have hb : 0 ≤ logAt l ln + 32 ∧ logAt l ln + 32 + 40 ≤ W := by unfold logAt; omega
  obtain ⟨a, ha⟩ : ∃ a : Nat, logAt l ln + 32 = a := ⟨(logAt l ln + 32).toNat, by omega⟩
  have hp := put_eq a (encR I[i].f4).2 x (by omega) (by omega)
  rw [← ha] at hp
  refine Tot.bind hp ?_
  exact make35 hg hW P I hIl hi h0 h1 hgn (over_U64 a hx e1) (by rw [over_len _ _ _ (by omega)]; exact hxl) hn
 ·exact Tot.step (fun k => by rw [r15_Make.c24, if_neg (by simpa using hs)]) (make35 hg hW P I hIl hi h0 h1 hgn hx hxl hn)
theorem make29 {i : Nat} (hi : i < I.length) {ln : Int} (h0 : 0 ≤ ln) (h1 : ln < l) {s g : Int} (hgn : 0 ≤ g) {x : List Int} (hx : U64 x) (hxl : (x.length : Int) = W) (hn : ∀ y, U64 y → (y.length : Int) = W → Tot W (fun k => r15_Make.c17 k ((i + 1 : Nat) : Int) I P W l y)) : ∀ (d j : Nat) (o : List Int), I[i].f3.length - j = d → j ≤ I[i].f3.length → U64 o → o.length ≤ 22 * j →
  Tot W (fun k => r15_Make.c29 k (i : Int) ln (j : Int) I P W l x I[i].f3 I[i].f4 s g o) := by
 have hl := hg.l
 have ho := hI _ (List.getElem_mem hi)
 intro d
 induction d with
 | zero =>
  intro j o hd hj hou hol
  obtain rfl : j = I[i].f3.length := by omega
  have h12 := ho.2.2.2.2.1
  refine Tot.step (f := fun k => (r15_Log.f k x W l ln).bind fun y7 => ((r14_Scatter.f k x y7 o).bind fun y8 => (r15_Make.c24 k i ln I P W l y8 I[i].f4 s (o.length : Int) g))) (fun k => by rw [r15_Make.c29, if_neg (by simp)]) ?_
  refine Tot.bind (refLog_eq hx (by omega) W l ln) ?_
  have htl := tabL_len x l (by rw [hxl]; exact hg)
  have hle := chV_len (tabL x l)
  obtain ⟨r1, r2⟩ := logsR_rng (chV (tabL x l)).2 ln 8
  rw [hxl] at htl
  have hlen : (if poolT x W l ln = true then logSp x l ln else []).length ≤ 600000 := by
   split
   ·unfold logSp; rw [List.length_cons, List.length_map]; omega
   ·simp
  have hsp : ∀ s ∈ (if poolT x W l ln = true then logSp x l ln else []), 0 ≤ s.f0 ∧ s.f0 ≤ 1073741824 ∧ s.f1 = 32 := by
   intro s hs
   split at hs
   ·unfold logSp at hs
    rcases List.mem_cons.mp hs with rfl | hs
    ·exact ⟨by show 0 ≤ logAt l ln; unfold logAt; omega, by show logAt l ln ≤ _; unfold logAt; omega, rfl⟩
    ·rw [List.mem_map] at hs
     obtain ⟨c, hc, rfl⟩ := hs
     have := r1 c hc
     have hh : heapAt W l = 10 + 73 * l + chunksG W l := rfl
     exact ⟨by show 0 ≤ heapAt (x.length : Int) l + 32 * c; rw [hxl]; omega, by show heapAt (x.length : Int) l + 32 * c ≤ _; rw [hxl]; omega, rfl⟩
   ·cases hs
  generalize (if poolT x W l ln = true then logSp x l ln else []) = L at hlen hsp
  have hsum : (placesL L).length ≤ 32 * L.length := by
   rw [placesL_len]
   clear hlen
   induction L with
   | nil => simp
   | cons s L ih =>
    have h1 := (hsp s List.mem_cons_self).2.2
    have h2 := ih (fun s hs => hsp s (List.mem_cons_of_mem _ hs))
    simp only [List.map_cons, List.sum_cons, List.length_cons, h1]
    omega
  refine Tot.bind (refScatter_eq x (by omega) L (fun s hs => by have := hsp s hs; omega) (by omega) (by omega) o (by omega)) ?_
  obtain ⟨s1, s2⟩ := scatL_ok (ps := placesL L) hx hou
  exact make24 hg hW P I hI hIl hi h0 h1 hgn s1 (by rw [s2]; exact hxl) hn
 | succ d ih =>
  intro j o hd hj hou hol
  have hlt : j < I[i].f3.length := by omega
  have he := ho.2.2.2.1 _ (List.getElem_mem hlt)
  have h12 := ho.2.2.2.2.1
  obtain ⟨u1, u2⟩ := encU_ok (gen := g) (a := I[i].f3[j].f0) he.1
  have he2 := he.2
  refine Tot.step (f := fun k => (r13_Encode.f k g I[i].f3[j].f0 I[i].f3[j].f1).bind fun y6 => (if o.length + y6.snd.length ≤ big then (r15_Make.c29 k i ln ((j + 1 : Nat) : Int) I P W l x I[i].f3 I[i].f4 s g (o ++ y6.snd)) else none)) (fun k => by
   rw [r15_Make.c29, if_pos (decide_eq_true (by omega)), if_pos (by omega), if_pos (by omega), gd I[i].f3 j _ hlt, i64w (x := (j : Int) + 1) (by omega) (by omega)]
   rfl) ?_
  refine Tot.bind (refUEnc_eq g _ _ hgn he.1) ?_
  exact Tot.congr (ih (j + 1) (o ++ encU g I[i].f3[j].f0 I[i].f3[j].f1) (by omega) (by omega) (U64_app hou u1) (by rw [List.length_append]; omega)) (fun k => by rw [if_pos (by unfold big; show o.length + (encU g I[i].f3[j].f0 I[i].f3[j].f1).length ≤ _; omega)])
include hP hPl
theorem make17 : ∀ (d i : Nat) (x : List Int), I.length - i = d → i ≤ I.length → U64 x → (x.length : Int) = W → Tot W (fun k => r15_Make.c17 k (i : Int) I P W l x) := by
 have hl := hg.l
 intro d
 induction d with
 | zero =>
  intro i x hd hi hx hxl
  obtain rfl : i = I.length := by omega
  exact Tot.step (fun k => by rw [r15_Make.c17, if_neg (by simp)]; rfl) (make41 ⟨by omega, by omega⟩ P hP hPl P.length 0 x rfl (by omega) hx hxl)
 | succ d ih =>
  intro i x hd hi hx hxl
  have hlt : i < I.length := by omega
  have ho := hI _ (List.getElem_mem hlt)
  have hn : ∀ y, U64 y → (y.length : Int) = W → Tot W (fun k => r15_Make.c17 k ((i + 1 : Nat) : Int) I P W l y) := fun y hy hyl => ih (i + 1) y (by omega) (by omega) hy hyl
  have hf0 := ho.1
  have hf1 := ho.2.1
  have hf2 := ho.2.2.1
  have e1 : (IntKind.i64.wrap I[i].f0).tmod l = I[i].f0 % l := by rw [i64w (by omega) (by omega), Int.tmod_eq_emod_of_nonneg (by omega)]
  have e2 : IntKind.i64.wrap (I[i].f1.tmod 3) = I[i].f1 % 3 := by rw [Int.tmod_eq_emod_of_nonneg (by omega), i64w (by omega) (by omega)]
  have e3 : I[i].f2.tmod 281474976710656 = I[i].f2 % 281474976710656 := Int.tmod_eq_emod_of_nonneg hf2.1
  have h0 := Int.emod_nonneg I[i].f0 (show l ≠ 0 by omega)
  have h1 := Int.emod_lt_of_pos I[i].f0 (show 0 < l by omega)
  by_cases hs : I[i].f1 % 3 = 1
  ·refine Tot.step (fun k => ?_) (make29 hg hW P I hI hIl hlt h0 h1 (s := I[i].f1 % 3) (g := I[i].f2 % 281474976710656) (by omega) hx hxl hn I[i].f3.length 0 [] (by omega) (by omega) U64_nil (by simp))
   rw [r15_Make.c17, if_pos (decide_eq_true (by omega)), if_pos (by omega), if_pos (by omega), if_neg (by omega), gd I i _ hlt, e1, e2, e3, if_pos (by simpa using hs)]
   rfl
  ·refine Tot.step (fun k => ?_) (make24 hg hW P I hI hIl hlt h0 h1 (s := I[i].f1 % 3) (c := 0) (g := I[i].f2 % 281474976710656) (by omega) hx hxl hn)
   rw [r15_Make.c17, if_pos (decide_eq_true (by omega)), if_pos (by omega), if_pos (by omega), if_neg (by omega), gd I i _ hlt, e1, e2, e3, if_neg (by simpa using hs)]
theorem fillI (F : List Int) (hF : U64 F) (hFl : F.length ≤ 1048576) : ∀ (d i : Nat) (x : List Int), x.length - i = d → i ≤ x.length → U64 x → (x.length : Int) = W → Tot W (fun k => r15_Make.c11 k (i : Int) F I P W l x) := by
 intro d
 induction d with
 | zero =>
  intro i x hd hi hx hxl
  exact Tot.step (fun k => by rw [r15_Make.c11, if_neg (by rw [decide_eq_true_eq]; omega)]; rfl) (make17 hg hW P hP hPl I hI hIl I.length 0 x rfl (by omega) hx hxl)
 | succ d ih =>
  intro i x hd hi hx hxl
  by_cases h0 : F.length = 0
  ·exact Tot.step (fun k => by rw [r15_Make.c11, if_pos (decide_eq_true (by omega)), if_neg (by rw [decide_eq_true_eq]; omega)]; rfl) (make17 hg hW P hP hPl I hI hIl I.length 0 x rfl (by omega) hx hxl)
  ·have hp : i % F.length < F.length := Nat.mod_lt _ (by omega)
   have ht : Int.tmod (i : Int) (F.length : Int) = ((i % F.length : Nat) : Int) := by rw [Int.tmod_eq_emod_of_nonneg (by omega)]; norm_cast
   refine Tot.step (fun k => ?_) (ih (i + 1) (x.set i F[i % F.length]) (by rw [List.length_set]; omega) (by rw [List.length_set]; omega) (U64_set hx _ _ (hF _ (List.getElem_mem hp))) (by rw [List.length_set]; exact hxl))
   rw [r15_Make.c11, if_pos (decide_eq_true (by omega)), if_pos (decide_eq_true (by omega)), if_neg (by omega), ht, if_pos (by omega), if_pos (by omega), if_pos (by omega), if_pos (by omega), if_pos (by omega), gd F _ 0 hp, i64w (by omega) (by omega)]
   rfl
end
structure GivRng (a b : Int) (t F : List Int) (I : List Itm) (root epoch : Int) (P : List Spl) : Prop where
 ha : 0 ≤ a
 hb : 0 ≤ b
 ht : ∀ x ∈ t, 0 ≤ x ∧ x ≤ 65535
 htl : t.length ≤ 20
 hF : U64 F
 hFl : F.length ≤ 40
 hI : ∀ x ∈ I, ItmOk x
 hIl : I.length ≤ 4
 hr : Wd root
 he : Wd epoch
 hP : ∀ s ∈ P, SplOk s
 hPl : P.length ≤ 4
theorem makeI {a b : Int} {t F : List Int} {I : List Itm} {root epoch : Int} {P : List Spl} (h : GivRng a b t F I root epoch P) : Tot (geoW a b) (fun k => r15_Make.f k a b t F I root epoch P) := by
 have hch := geoW_chunks a b
 obtain ⟨hg, hn, hw, hw0⟩ := geoW_rng a b
 have hL : 1 ≤ geoL a ∧ geoL a ≤ 3 := by unfold geoL; omega
 have hNN : 1 ≤ geoN b ∧ geoN b ≤ 8 := by unfold geoN; omega
 have hW : geoW a b = 10 + 73 * geoL a + 33 * geoN b := rfl
 have htl := h.htl
 have hFl := h.hFl
 have hIl := h.hIl
 have hPl := h.hPl
 obtain ⟨W, hWn⟩ : ∃ W : Nat, geoW a b = (W : Int) := ⟨(geoW a b).toNat, by omega⟩
 obtain ⟨ds, hds, hdl, _, hmade⟩ := made_eq (fun _ => True) trivial trivial t (fun _ _ => trivial) (geoN b) (by omega) (by omega) h.ht
 have hhl : (H.headL (geoW a b) (geoL a) (geoN b)).length = 8 := rfl
 have hhU : U64 (H.headL (geoW a b) (geoL a) (geoN b)) := headL_U64 _ _ _ ⟨by omega, by omega⟩ ⟨by omega, by omega⟩ ⟨by omega, by omega⟩
 generalize hHd : H.headL (geoW a b) (geoL a) (geoN b) = Hd at hhl hhU
 have hrep : (List.replicate W (0 : Int)).length = W := List.length_replicate
 have hrepU : U64 (List.replicate W (0 : Int)) := fun y hy => by rw [List.eq_of_mem_replicate hy]; exact ⟨by decide, by decide⟩
 have h2l := over_len (List.replicate W (0 : Int)) 0 Hd (by omega)
 have h2U := over_U64 0 hrepU hhU
 have hput1 := put_eq 0 Hd (List.replicate W (0 : Int)) (by omega) (by omega)
 generalize over (List.replicate W (0 : Int)) 0 Hd = y2 at h2l h2U hput1
 obtain ⟨T, hT⟩ : ∃ T : Nat, tabAt (geoL a) = (T : Int) := ⟨(tabAt (geoL a)).toNat, by unfold tabAt; omega⟩
 have hT2 : (T : Int) = 10 + 73 * geoL a := by rw [← hT]; rfl
 have h3U : U64 ((y2.set 8 root).set 9 epoch) := U64_set (U64_set h2U _ _ h.hr) _ _ h.he
 have h3l : ((y2.set 8 root).set 9 epoch).length = W := by simp; omega
 have htU := U64_enc ds hds.ok
 have htl2 : (ds.map encC).length = ds.length := List.length_map ..
 have h5l := over_len ((y2.set 8 root).set 9 epoch) T (ds.map encC) (by omega)
 have h5U := over_U64 T h3U htU
 have hput2 := put_eq T (ds.map encC) ((y2.set 8 root).set 9 epoch) (by omega) (by omega)
 generalize over ((y2.set 8 root).set 9 epoch) T (ds.map encC) = y5 at h5l h5U hput2
 unfold r15_Make.f
 refine Tot.bind (Evt.of fun k => geometry_eq k a b h.ha h.hb t F I root epoch P) ?_
 refine Tot.congr (f := fun k => (r06_Encode.f k (geoW a b) (geoL a)).bind fun y1 => (r15_put.f k 0 y1.snd (List.replicate W (0 : Int))).bind fun y2 => if 8 < (y2.length : Int) then if Int.toNat 8 < y2.length then if 9 < ((y2.set (Int.toNat 8) root).length : Int) then if Int.toNat 9 < (y2.set (Int.toNat 8) root).length then (r05_Table.f k (geoW a b) (geoL a)).bind fun y3 => (r11_Made.f k t y3.snd).bind fun y4 => (r15_put.f k y3.fst y4 ((y2.set (Int.toNat 8) root).set (Int.toNat 9) epoch)).bind fun y5 => r15_Make.c11 k (IntKind.i64.wrap (y3.fst + y3.snd)) F I P (geoW a b) (geoL a) y5 else none else none else none else none) ?_ (fun k => by
  dsimp only
  rw [hWn, if_pos (by omega), if_pos (by omega), if_pos (by omega)]
  rfl)
 refine Tot.bind (refEnc_yes _ _ hg (by omega)) ?_
 rw [hch, hHd]
 refine Tot.bind hput1 ?_
 refine Tot.congr (f := fun k => (r05_Table.f k (geoW a b) (geoL a)).bind fun y3 => (r11_Made.f k t y3.snd).bind fun y4 => (r15_put.f k y3.fst y4 ((y2.set 8 root).set 9 epoch)).bind fun y5 => r15_Make.c11 k (IntKind.i64.wrap (y3.fst + y3.snd)) F I P (geoW a b) (geoL a) y5) ?_ (fun k => by
  rw [if_pos (by omega), if_pos (by show 8 < y2.length; omega), if_pos (by rw [List.length_set]; omega), if_pos (by rw [List.length_set]; show 9 < y2.length; omega)]
  rfl)
 refine Tot.bind (Evt.at 2000 fun k => refTable_eq k _ _ hg) ?_
 rw [hch]
 refine Tot.bind hmade ?_
 rw [hT]
 refine Tot.bind hput2 ?_
 refine Tot.congr (fillI hg ⟨by omega, by omega⟩ P h.hP (by omega) I h.hI (by omega) F h.hF (by omega) _ (T + (geoN b).toNat) y5 rfl (by omega) h5U (by omega)) (fun k => ?_)
 dsimp only
 rw [i64w (by omega) (by omega), show (T : Int) + geoN b = ((T + (geoN b).toNat : Nat) : Int) by omega]
def fewI (x : Itm) : Bool := decide (x.f3.length ≤ 12) && (decide (x.f4.length ≤ 22) && x.f3.all fun e => decide (e.f1.length ≤ 20))
theorem few14 (I : List Itm) (hl : I.length ≤ 4) (i : Nat) (hi : i < I.length) (h12 : I[i].f3.length ≤ 12) {r : Bool} (h : Evt (fun k => r15_Few.c6 k ((i + 1 : Nat) : Int) I) r) : ∀ (d j : Nat), I[i].f3.length - j = d → j ≤ I[i].f3.length →
  Evt (fun k => r15_Few.c14 k (i : Int) (j : Int) I) (((I[i].f3.drop j).all fun e => decide (e.f1.length ≤ 20)) && r) := by
 intro d
 induction d with
 | zero =>
  intro j hd hj
  obtain rfl : j = I[i].f3.length := by omega
  rw [List.drop_length]
  exact Evt.step (fun k => by rw [r15_Few.c14, if_pos (by omega), if_pos (by omega), gd I i _ hi, if_neg (by simp), i64w (by omega) (by omega)]; rfl) (h.eq (by simp))
 | succ d ih =>
  intro j hd hj
  have hlt : j < I[i].f3.length := by omega
  rw [List.drop_eq_getElem_cons hlt, List.all_cons]
  by_cases h20 : I[i].f3[j].f1.length ≤ 20
  ·refine Evt.step (fun k => ?_) ((ih (j + 1) (by omega) (by omega)).eq (by rw [decide_eq_true h20, Bool.true_and]))
   rw [r15_Few.c14, if_pos (by omega), if_pos (by omega), gd I i _ hi, if_pos (decide_eq_true (by omega)), if_pos (by omega), if_pos (by omega), if_pos (by omega), if_pos (by omega), gd I[i].f3 j _ hlt, if_neg (by rw [decide_eq_true_eq]; omega), i64w (x := (j : Int) + 1) (by omega) (by omega)]
   rfl
  ·refine Evt.step (f := fun _ => some false) (fun k => ?_) ((Evt.some _).eq (by rw [decide_eq_false h20]; rfl))
   rw [r15_Few.c14, if_pos (by omega), if_pos (by omega), gd I i _ hi, if_pos (decide_eq_true (by omega)), if_pos (by omega), if_pos (by omega), if_pos (by omega), if_pos (by omega), gd I[i].f3 j _ hlt, if_pos (decide_eq_true (by omega))]
theorem few6 (I : List Itm) (hl : I.length ≤ 4) : ∀ (d i : Nat), I.length - i = d → i ≤ I.length → Evt (fun k => r15_Few.c6 k (i : Int) I) ((I.drop i).all fewI) := by
 intro d
 induction d with
 | zero =>
  intro i hd hi
  obtain rfl : i = I.length := by omega
  rw [List.drop_length]
  exact Evt.step (f := fun _ => some true) (fun k => by rw [r15_Few.c6, if_neg (by simp)]) (Evt.some _)
 | succ d ih =>
  intro i hd hi
  have hlt : i < I.length := by omega
  rw [List.drop_eq_getElem_cons hlt, List.all_cons]
  unfold fewI
  by_cases h12 : I[i].f3.length ≤ 12
  ·by_cases h22 : I[i].f4.length ≤ 22
   ·refine Evt.step (fun k => ?_) ((few14 I hl i hlt h12 (ih (i + 1) (by omega) (by omega)) I[i].f3.length 0 (by omega) (by omega)).eq (by rw [decide_eq_true h12, decide_eq_true h22, List.drop_zero, Bool.true_and, Bool.true_and]; rfl))
    rw [r15_Few.c6, if_pos (decide_eq_true (by omega)), if_pos (by omega), if_pos (by omega), gd I i _ hlt, if_pos (decide_eq_false (by omega)), if_pos (by omega), if_pos (by omega), if_neg (by rw [decide_eq_true_eq]; omega)]
    rfl
   ·refine Evt.step (f := fun _ => some false) (fun k => ?_) ((Evt.some _).eq (by rw [decide_eq_false h22, decide_eq_true h12]; rfl))
    rw [r15_Few.c6, if_pos (decide_eq_true (by omega)), if_pos (by omega), if_pos (by omega), gd I i _ hlt, if_pos (decide_eq_false (by omega)), if_pos (by omega), if_pos (by omega), if_pos (decide_eq_true (by omega))]
  ·refine Evt.step (f := fun _ => some false) (fun k => ?_) ((Evt.some _).eq (by rw [decide_eq_false h12]; rfl))
   rw [r15_Few.c6, if_pos (decide_eq_true (by omega)), if_pos (by omega), if_pos (by omega), gd I i _ hlt, if_neg (by rw [decide_eq_false_iff_not]; omega)]
def fewG (t F : List Int) (I : List Itm) (P : List Spl) : Bool := decide (t.length ≤ 20 ∧ F.length ≤ 40 ∧ I.length ≤ 4 ∧ P.length ≤ 4) && I.all fewI
theorem fewG_eq (a b : Int) (t F : List Int) (I : List Itm) (root epoch : Int) (P : List Spl) : Evt (fun k => r15_Few.f k a b t F I root epoch P) (fewG t F I P) := by
 unfold r15_Few.f fewG
 by_cases h1 : t.length ≤ 20
 ·by_cases h2 : F.length ≤ 40
  ·by_cases h3 : I.length ≤ 4
   ·by_cases h4 : P.length ≤ 4
    ·exact Evt.congr ((few6 I h3 I.length 0 (by omega) (by omega)).eq (by rw [decide_eq_true ⟨h1, h2, h3, h4⟩, List.drop_zero, Bool.true_and])) (fun k => by
      rw [if_pos (decide_eq_false (by omega)), if_pos (decide_eq_false (by omega)), if_pos (decide_eq_false (by omega)), if_neg (by rw [decide_eq_true_eq]; omega)]
      rfl)
    ·exact (Evt.of fun k => by rw [if_pos (decide_eq_false (by omega)), if_pos (decide_eq_false (by omega)), if_pos (decide_eq_false (by omega)), if_pos (decide_eq_true (by omega))]).eq (by rw [decide_eq_false (fun h => h4 h.2.2.2)]; rfl)
   ·exact (Evt.of fun k => by rw [if_pos (decide_eq_false (by omega)), if_pos (decide_eq_false (by omega)), if_neg (by rw [decide_eq_false_iff_not]; omega)]).eq (by rw [decide_eq_false (fun h => h3 h.2.2.1)]; rfl)
  ·exact (Evt.of fun k => by rw [if_pos (decide_eq_false (by omega)), if_neg (by rw [decide_eq_false_iff_not]; omega)]).eq (by rw [decide_eq_false (fun h => h2 h.2.1)]; rfl)
 ·exact (Evt.of fun k => by rw [if_neg (by rw [decide_eq_false_iff_not]; omega)]).eq (by rw [decide_eq_false (fun h => h1 h.1)]; rfl)
structure GivWf (a b : Int) (t F : List Int) (I : List Itm) (root epoch : Int) (P : List Spl) : Prop where
 ha : 0 ≤ a
 hb : 0 ≤ b
 ht : ∀ x ∈ t, 0 ≤ x ∧ x ≤ 65535
 hF : U64 F
 hI : ∀ x ∈ I, (0 ≤ x.f0 ∧ x.f0 ≤ 255) ∧ (0 ≤ x.f1 ∧ x.f1 ≤ 255) ∧ Wd x.f2 ∧ (∀ e ∈ x.f3, U64 e.f1) ∧ (∀ o ∈ x.f4, Wd o.f2)
 hr : Wd root
 he : Wd epoch
 hP : ∀ s ∈ P, SplOk s
theorem GivWf.rng {a b : Int} {t F : List Int} {I : List Itm} {root epoch : Int} {P : List Spl} (h : GivWf a b t F I root epoch P) (hf : fewG t F I P = true) : GivRng a b t F I root epoch P := by
 unfold fewG at hf
 simp only [Bool.and_eq_true, decide_eq_true_eq, List.all_eq_true] at hf
 obtain ⟨⟨f1, f2, f3, f4⟩, f5⟩ := hf
 refine ⟨h.ha, h.hb, h.ht, f1, h.hF, f2, fun x hx => ?_, f3, h.hr, h.he, h.hP, f4⟩
 have g := f5 x hx
 unfold fewI at g
 simp only [Bool.and_eq_true, decide_eq_true_eq, List.all_eq_true] at g
 obtain ⟨i0, i1, i2, i3, i4⟩ := h.hI x hx
 exact ⟨i0, i1, i2, fun e he => ⟨i3 e he, g.2.2 e he⟩, g.1, i4, g.2.1⟩
theorem soundGiven_ev {a b : Int} {t F : List Int} {I : List Itm} {root epoch : Int} {P : List Spl} (h : GivWf a b t F I root epoch P) : Evt (fun k => l16_SoundGiven.f k a b t F I root epoch P) true := by
 unfold l16_SoundGiven.f
 refine Evt.bind (Evt.at 700 awake_k) ?_
 refine Evt.bind (fewG_eq a b t F I root epoch P) ?_
 cases hf : fewG t F I P with
 | false => exact Evt.of fun k => by rw [if_pos (by decide)]
 | true =>
  obtain ⟨x, hx, hU, hl⟩ := makeI (h.rng hf)
  obtain ⟨hg, hn, hw, hw0⟩ := geoW_rng a b
  refine Evt.congr (f := fun k => (r15_Make.f k a b t F I root epoch P).bind fun y2 => ((sound_Sound.f k y2).bind fun y3 => ((r16_Sound.f k y2).bind fun y4 => (if (y3 == y4) = true then ((sound_Objects.f k y2).bind fun y5 => ((r16_Objects.f k y2).bind fun y6 => ((r16_Same.f k y5 y6).bind fun y7 => (if y7 = true then ((sound_Root.f k y2).bind fun y8 => ((r16_Root.f k y2).bind fun y9 => (some (y8.fst == y9.fst && (y8.snd.fst == y9.snd.fst && y8.snd.snd == y9.snd.snd))))) else (some false)))))  else (some false))))) ?_ (fun k => by
   rw [if_neg (by decide)]
   rfl)
  refine Evt.bind hx ?_
  exact tells_end _ hU (by omega) (fun k => rfl)
end Go.Proofs.YtbbpcbjgekencaaGreatDoor.PS
end
section
set_option linter.unusedVariables false
set_option linter.unusedSimpArgs false
namespace Go.Proofs.YtbbpcbjgekencaaGreatDoor.Opens
open Go.RowKit Go.ChangeShapes Go.WideShapes Go.Deep Go.Proofs.YtbbpcbjgekencaaGreatDoorW.PrintWords
def Opens (P : Program) (t : TypeId) {α : Type} (d : Kd α) (wf : α → Prop) : Prop :=
 ∀ {H : Type} (enc : TypeId × Value → H) (w : World) (base : Nat) (spare : Nat → Bool) (held : Bool) (fuel : Nat) (cs : List Value) (x : DataW H × List MemPlace),
  DataW.trod enc P w base spare held fuel t cs = some x → ∃ a : α, d.K w a cs ∧ wf a
theorem opens_int {P : Program} {t : TypeId} {k : IntKind} (ht : P.underlying t = some (.int k)) : Opens P t (Kd.int k) (fun n => (Lit.int k n).wf = true) := by
 intro H enc w base spare held fuel cs x h
 obtain ⟨n, rfl, _, hw⟩ := DataW.trod_int ht h
 exact ⟨n, rfl, hw⟩
theorem list_of_range {α : Type} (p : Nat → α → Prop) : ∀ n, (∀ i, i < n → ∃ a, p i a) → ∃ xs : List α, xs.length = n ∧ ∀ i a, xs[i]? = some a → p i a
 | 0, _ => ⟨[], rfl, fun i a h => by simp at h⟩
 | n + 1, h => by
  obtain ⟨xs, hl, hx⟩ := list_of_range p n (fun i hi => h i (by omega))
  obtain ⟨a, ha⟩ := h n (by omega)
  refine ⟨xs ++ [a], by simp [hl], fun i b hb => ?_⟩
  rcases Nat.lt_or_ge i xs.length with hi | hi
  ·rw [List.getElem?_append_left hi] at hb; exact hx i b hb
  ·rw [List.getElem?_append_right hi] at hb
   have : i = n := by
    have := (List.getElem?_eq_some_iff.1 hb).1
    simp at this; omega
   subst this
   rw [hl, Nat.sub_self] at hb
   injection hb with hb
   subst hb
   exact ha
theorem opens_slice {P : Program} {t e : TypeId} {α : Type} {d : Kd α} {wf : α → Prop} (ht : P.underlying t = some (.slice e)) (he : Opens P e d wf) (hsz : P.cellsOf e = d.sz) :
  Opens P t (Kd.slice e d) (fun xs => xs.length ≤ maxLen ∧ ∀ x ∈ xs, wf x) := by
 intro H enc w base spare held fuel cs x h
 rcases open_slice ht h with ⟨rfl, _⟩ | ⟨a, len, cap, m, n, D, Pl, rfl, _, hl, hm, hmm, _, hi⟩
 ·exact ⟨[], ⟨none, 0, rfl, Nat.le_refl _, rfl, Nat.zero_le _, fun h => absurd h (Nat.lt_irrefl 0)⟩, Nat.zero_le _, fun x hx => absurd hx List.not_mem_nil⟩
 ·have hlm : len ≤ m := by rw [hmm]; split <;> omega
  obtain ⟨xs, hxl, hx⟩ := list_of_range (fun i (b : α) => ∃ c, c.length = d.sz ∧ d.K w b c ∧ (∀ j u, c[j]? = some u → w.cell? (a.add (i * d.sz + j)) = some u) ∧ wf b) len (fun i hil => by
   obtain ⟨cs', hc, ht'⟩ := hi i (by omega)
   obtain ⟨b, hK, hw⟩ := he enc w base spare held n cs' _ ht'
   obtain ⟨_, hcl, hat⟩ := World.cells?_some hc
   refine ⟨b, cs', d.K_len hK, hK, fun j u hu => ?_, hw⟩
   have hj := (List.getElem?_eq_some_iff.1 hu).1
   have := hat j (by omega)
   rw [← hsz, ← Go.Deep.add_add, this]
   exact hu)
  refine ⟨xs, ⟨some a, cap, by rw [hxl], by omega, rfl, by unfold maxLen at hm; omega, fun _ => ⟨a, rfl, fun j p hj => ?_⟩⟩, by omega, fun b hb => ?_⟩
  ·obtain ⟨c, h1, h2, h3, _⟩ := hx j p hj
   exact ⟨c, h1, h2, h3⟩
  ·obtain ⟨i, hi', e⟩ := List.mem_iff_getElem.1 hb
   obtain ⟨_, _, _, _, hw⟩ := hx i b (by rw [List.getElem?_eq_getElem hi', e])
   exact hw
def OpensF (P : Program) : List Field → Nat → {α : Type} → Kd α → (α → Prop) → Prop := fun fs off α d wf =>
 ∀ {H : Type} (enc : TypeId × Value → H) (w : World) (base : Nat) (spare : Nat → Bool) (held : Bool) (n : Nat) (cs : List Value),
  cs.length = d.sz → (∀ (i : Nat) (f : Field), fs[i]? = some f → ∃ y, DataW.trod enc P w base spare held n f.type ((cs.drop (f.offset - off)).take (P.cellsOf f.type)) = some y) → ∃ a : α, d.K w a cs ∧ wf a
theorem opensF_last {P : Program} {f : Field} {off : Nat} {α : Type} {d : Kd α} {wf : α → Prop} (hf : Opens P f.type d wf) (ho : f.offset = off) (hsz : P.cellsOf f.type = d.sz) : OpensF P [f] off d wf := by
 intro H enc w base spare held n cs hl h
 obtain ⟨y, hy⟩ := h 0 f rfl
 rw [ho, Nat.sub_self, List.drop_zero, hsz, ← hl, List.take_length] at hy
 exact hf enc w base spare held n cs y hy
theorem opensF_cons {P : Program} {f : Field} {fs : List Field} {off : Nat} {α β : Type} {d : Kd α} {d' : Kd β} {wf : α → Prop} {wf' : β → Prop} (hf : Opens P f.type d wf) (ho : f.offset = off) (hsz : P.cellsOf f.type = d.sz)
  (hr : OpensF P fs (off + d.sz) d' wf') (hge0 : (fs.all fun g => decide (off + d.sz ≤ g.offset)) = true) : OpensF P (f :: fs) off (Kd.pair d d') (fun p => wf p.1 ∧ wf' p.2) := by
 have hge : ∀ g ∈ fs, off + d.sz ≤ g.offset := fun g hg => of_decide_eq_true (List.all_eq_true.1 hge0 g hg)
 intro H enc w base spare held n cs hl h
 have hl' : cs.length = d.sz + d'.sz := hl
 obtain ⟨y, hy⟩ := h 0 f rfl
 rw [ho, Nat.sub_self, List.drop_zero, hsz] at hy
 obtain ⟨a, ha, hwa⟩ := hf enc w base spare held n _ y hy
 obtain ⟨b, hb, hwb⟩ := hr enc w base spare held n (cs.drop d.sz) (by rw [List.length_drop]; omega) (fun i g hg => by
  obtain ⟨z, hz⟩ := h (i + 1) g (by simpa using hg)
  refine ⟨z, ?_⟩
  have hgm := hge g (List.mem_of_getElem? hg)
  rw [List.drop_drop, show d.sz + (g.offset - (off + d.sz)) = g.offset - off by omega]
  exact hz)
 exact ⟨(a, b), ⟨cs.take d.sz, cs.drop d.sz, (List.take_append_drop _ _).symm, ha, hb⟩, hwa, hwb⟩
theorem opens_struct {P : Program} {t : TypeId} {fs : List Field} {α β : Type} {d : Kd β} {wf : β → Prop} (f : α → β) (g : β → α) (hfg : ∀ b, f (g b) = b) (ht : P.underlying t = some (.struct fs.toArray)) (hs : P.cellsOf t = d.sz) (h : OpensF P fs 0 d wf) :
  Opens P t (Kd.iso d f) (fun x => wf (f x)) := by
 intro H enc w base spare held fuel cs x hx
 obtain ⟨xs, n, _, _, hl, hxl, hf⟩ := DataW.trod_struct ht hx
 obtain ⟨b, hb, hw⟩ := h enc w base spare held n cs (by omega) (fun i q hq => by
  have h1 := hf i q (by simpa using hq)
  have hlt : i < xs.length := by
   rw [hxl]
   have := (List.getElem?_eq_some_iff.1 hq).1
   simpa using this
  rw [List.getElem?_eq_getElem hlt] at h1
  rw [Nat.sub_zero]
  exact ⟨_, h1⟩)
 refine ⟨g b, ?_, ?_⟩
 ·show d.K w (f (g b)) cs
  rw [hfg]; exact hb
 ·show wf (f (g b))
  rw [hfg]; exact hw
end Go.Proofs.YtbbpcbjgekencaaGreatDoor.Opens
end
section
set_option linter.unusedVariables false
set_option linter.unusedSimpArgs false
namespace Go.Proofs.YtbbpcbjgekencaaGreatDoor.Q
open Go.RowKit Go.Proofs.YtbbpcbjgekencaaGreatDoorW.PrintWords Go.Proofs.YtbbpcbjgekencaaGreatDoor.Opens
structure S47 where
 f0 : Int
 f1 : Int
 f2 : (List Int)
 f3 : (List Int)
 f4 : (List S94)
 f5 : Int
 f6 : Int
 f7 : (List S35)
def k47 : Kd S47 := Kd.iso (Kd.pair (Kd.int .u8) (Kd.pair (Kd.int .u8) (Kd.pair (Kd.slice 32 (Kd.int .u16)) (Kd.pair (Kd.slice 33 (Kd.int .u64)) (Kd.pair (Kd.slice 94 k94) (Kd.pair (Kd.int .u64) (Kd.pair (Kd.int .u64) (Kd.slice 35 k35)))))))) (fun x : S47 => (x.f0, x.f1, x.f2, x.f3, x.f4, x.f5, x.f6, x.f7))
theorem k47_open {w : World} {x : S47} {cs : List Value} (h : k47.K w x cs) : ∃ A2 c2 A3 c3 A4 c4 A7 c7, cs = [.int .u8 x.f0, .int .u8 x.f1, .slice A2 x.f2.length c2, .slice A3 x.f3.length c3, .slice A4 x.f4.length c4, .int .u64 x.f5, .int .u64 x.f6, .slice A7 x.f7.length c7] ∧ x.f2.length ≤ c2 ∧ (Kd.int .u16).C w A2 x.f2.length x.f2 ∧ x.f3.length ≤ c3 ∧ (Kd.int .u64).C w A3 x.f3.length x.f3 ∧ x.f4.length ≤ c4 ∧ k94.C w A4 x.f4.length x.f4 ∧ x.f7.length ≤ c7 ∧ k35.C w A7 x.f7.length x.f7 := by
 obtain ⟨_, _, rfl, rfl, ⟨_, _, rfl, rfl, ⟨_, _, rfl, ⟨A2, c2, rfl, l2, g2⟩, ⟨_, _, rfl, ⟨A3, c3, rfl, l3, g3⟩, ⟨_, _, rfl, ⟨A4, c4, rfl, l4, g4⟩, ⟨_, _, rfl, rfl, ⟨_, _, rfl, rfl, ⟨A7, c7, rfl, l7, g7⟩⟩⟩⟩⟩⟩⟩⟩ := h
 exact ⟨A2, c2, A3, c3, A4, c4, A7, c7, rfl, l2, g2, l3, g3, l4, g4, l7, g7⟩
def wf35 (x : S35) : Prop := ((Lit.int .u16 x.f0).wf = true) ∧ ((Lit.int .u64 x.f1).wf = true)
theorem op35 : Opens Tryz.prog 35 k35 wf35 := opens_struct (fun x : S35 => (x.f0, x.f1)) (fun b => ⟨b.1, b.2⟩) (fun _ => rfl) Tryz.underlying35 (by kernel_rfl) (opensF_cons (opens_int (k := .u16) Tryz.underlying32) rfl (by kernel_rfl) (opensF_last (opens_int (k := .u64) Tryz.underlying33) rfl (by kernel_rfl)) (by decide))
def wf96 (x : S96) : Prop := ((Lit.int .i64 x.f0).wf = true) ∧ ((x.f1.length ≤ maxLen ∧ ∀ x_ ∈ x.f1, (Lit.int .u64 x_).wf = true))
theorem op96 : Opens Tryz.prog 96 k96 wf96 := opens_struct (fun x : S96 => (x.f0, x.f1)) (fun b => ⟨b.1, b.2⟩) (fun _ => rfl) Tryz.underlying96 (by kernel_rfl) (opensF_cons (opens_int (k := .i64) Tryz.underlying3) rfl (by kernel_rfl) (opensF_last (opens_slice Tryz.underlying25 (opens_int (k := .u64) Tryz.underlying33) (by kernel_rfl)) rfl (by kernel_rfl)) (by decide))
def wf135 (x : S135) : Prop := ((Lit.int .i64 x.f0).wf = true) ∧ ((Lit.int .i64 x.f1).wf = true) ∧ ((Lit.int .u64 x.f2).wf = true)
theorem op135 : Opens Tryz.prog 135 k135 wf135 := opens_struct (fun x : S135 => (x.f0, x.f1, x.f2)) (fun b => ⟨b.1, b.2.1, b.2.2⟩) (fun _ => rfl) Tryz.underlying135 (by kernel_rfl) (opensF_cons (opens_int (k := .i64) Tryz.underlying3) rfl (by kernel_rfl) (opensF_cons (opens_int (k := .i64) Tryz.underlying3) rfl (by kernel_rfl) (opensF_last (opens_int (k := .u64) Tryz.underlying33) rfl (by kernel_rfl)) (by decide)) (by decide))
def wf94 (x : S94) : Prop := ((Lit.int .u8 x.f0).wf = true) ∧ ((Lit.int .u8 x.f1).wf = true) ∧ ((Lit.int .u64 x.f2).wf = true) ∧ ((x.f3.length ≤ maxLen ∧ ∀ x_ ∈ x.f3, wf96 x_)) ∧ ((x.f4.length ≤ maxLen ∧ ∀ x_ ∈ x.f4, wf135 x_))
theorem op94 : Opens Tryz.prog 94 k94 wf94 := opens_struct (fun x : S94 => (x.f0, x.f1, x.f2, x.f3, x.f4)) (fun b => ⟨b.1, b.2.1, b.2.2.1, b.2.2.2.1, b.2.2.2.2⟩) (fun _ => rfl) Tryz.underlying94 (by kernel_rfl) (opensF_cons (opens_int (k := .u8) Tryz.underlying5) rfl (by kernel_rfl) (opensF_cons (opens_int (k := .u8) Tryz.underlying5) rfl (by kernel_rfl) (opensF_cons (opens_int (k := .u64) Tryz.underlying33) rfl (by kernel_rfl) (opensF_cons (opens_slice Tryz.underlying91 op96 (by kernel_rfl)) rfl (by kernel_rfl) (opensF_last (opens_slice Tryz.underlying92 op135 (by kernel_rfl)) rfl (by kernel_rfl)) (by decide)) (by decide)) (by decide)) (by decide))
def wf47 (x : S47) : Prop := ((Lit.int .u8 x.f0).wf = true) ∧ ((Lit.int .u8 x.f1).wf = true) ∧ ((x.f2.length ≤ maxLen ∧ ∀ x_ ∈ x.f2, (Lit.int .u16 x_).wf = true)) ∧ ((x.f3.length ≤ maxLen ∧ ∀ x_ ∈ x.f3, (Lit.int .u64 x_).wf = true)) ∧ ((x.f4.length ≤ maxLen ∧ ∀ x_ ∈ x.f4, wf94 x_)) ∧ ((Lit.int .u64 x.f5).wf = true) ∧ ((Lit.int .u64 x.f6).wf = true) ∧ ((x.f7.length ≤ maxLen ∧ ∀ x_ ∈ x.f7, wf35 x_))
theorem op47 : Opens Tryz.prog 47 k47 wf47 := opens_struct (fun x : S47 => (x.f0, x.f1, x.f2, x.f3, x.f4, x.f5, x.f6, x.f7)) (fun b => ⟨b.1, b.2.1, b.2.2.1, b.2.2.2.1, b.2.2.2.2.1, b.2.2.2.2.2.1, b.2.2.2.2.2.2.1, b.2.2.2.2.2.2.2⟩) (fun _ => rfl) Tryz.underlying47 (by kernel_rfl) (opensF_cons (opens_int (k := .u8) Tryz.underlying5) rfl (by kernel_rfl) (opensF_cons (opens_int (k := .u8) Tryz.underlying5) rfl (by kernel_rfl) (opensF_cons (opens_slice Tryz.underlying22 (opens_int (k := .u16) Tryz.underlying32) (by kernel_rfl)) rfl (by kernel_rfl) (opensF_cons (opens_slice Tryz.underlying25 (opens_int (k := .u64) Tryz.underlying33) (by kernel_rfl)) rfl (by kernel_rfl) (opensF_cons (opens_slice Tryz.underlying45 op94 (by kernel_rfl)) rfl (by kernel_rfl) (opensF_cons (opens_int (k := .u64) Tryz.underlying33) rfl (by kernel_rfl) (opensF_cons (opens_int (k := .u64) Tryz.underlying33) rfl (by kernel_rfl) (opensF_last (opens_slice Tryz.underlying28 op35 (by kernel_rfl)) rfl (by kernel_rfl)) (by decide)) (by decide)) (by decide)) (by decide)) (by decide)) (by decide)) (by decide))
end Go.Proofs.YtbbpcbjgekencaaGreatDoor.Q
end
section
set_option linter.unusedVariables false
set_option linter.unusedSimpArgs false
namespace Go.Proofs.YtbbpcbjgekencaaGreatDoor.Pure
open Go Go.RowKit Go.Proofs.YtbbpcbjgekencaaGreatDoor.Q Go.Proofs.YtbbpcbjgekencaaGreatDoorW.PrintWords Go.Proofs.YtbbpcbjgekencaaGreatDoor Go.Proofs.YtbbpcbjgekencaaGreatDoor.PS
theorem SoundGiven : ∀ (a0 : S47), wf47 a0 → ∃ k, H.l16_SoundGiven.f k a0.f0 a0.f1 a0.f2 a0.f3 a0.f4 a0.f5 a0.f6 a0.f7 = some true := by
 intro a0 h
 obtain ⟨i0, i1, ⟨_, i2⟩, ⟨_, i3⟩, ⟨_, i4⟩, i5, i6, ⟨_, i7⟩⟩ := h
 obtain ⟨K, hK⟩ := soundGiven_ev (a := a0.f0) (b := a0.f1) (t := a0.f2) (F := a0.f3) (I := a0.f4) (root := a0.f5) (epoch := a0.f6) (P := a0.f7) ⟨(wu8 i0).1, (wu8 i1).1, fun x hx => wu16 (i2 x hx), fun x hx => wuu64 (i3 x hx), fun x hx => by
  obtain ⟨j0, j1, j2, ⟨_, j3⟩, ⟨_, j4⟩⟩ := i4 x hx
  exact ⟨wu8 j0, wu8 j1, wuu64 j2, fun e he => fun y hy => wuu64 ((j3 e he).2.2 y hy), fun o ho => wuu64 (j4 o ho).2.2⟩, wuu64 i5, wuu64 i6, fun x hx => ⟨wu16 (i7 x hx).1, wuu64 (i7 x hx).2⟩⟩
 exact ⟨K, hK K (Nat.le_refl _)⟩
end Go.Proofs.YtbbpcbjgekencaaGreatDoor.Pure
end
section
set_option linter.unusedVariables false
set_option linter.unusedSimpArgs false
namespace Go.Proofs.YtbbpcbjgekencaaGreatDoor.Q
open Go.RowKit Go.Proofs.YtbbpcbjgekencaaGreatDoorW.PrintWords Go.Proofs.YtbbpcbjgekencaaGreatDoorW.PrintLast Go.Proofs.YtbbpcbjgekencaaGreatDoorW.PrintMore
attribute [local go_sem] max2_int min2_int max_two min_two max_three min_three max_four min_four   -- for this text's walks alone
set_option linter.unusedVariables false
set_option linter.unusedSimpArgs false
def Gl (w : World) : Prop := w.cell? ⟨0, 0, none⟩ = some (.int .i64 4) ∧ w.cell? ⟨0, 1, none⟩ = some (.int .i64 8) ∧ w.cell? ⟨0, 2, none⟩ = some (.int .i64 16)
theorem Gl.below {w W : World} (h : Gl w) (hb : Below w.heap.size w W) : Gl W := ⟨pw_cell_below hb h.1, pw_cell_below hb h.2.1, pw_cell_below hb h.2.2⟩
theorem Gl.drewN {w : World} (h : Gl w) (n : Nat) : Gl (w.drewN n) := h
theorem Gl.drew {w : World} (h : Gl w) : Gl w.drew := h
theorem Gl.alloc {w : World} (h : Gl w) (o : Obj) : Gl (w.alloc o) := h.below ((Below.refl _ w).alloc (Nat.le_refl _) o)
def CallsG (n : Nat) (args : Array Value) (w : World) (R : Ending → World → Prop) : Prop := Gl w → Calls Tryz.prog n args w R
theorem CallsG.mono {n : Nat} {args : Array Value} {w : World} {R R' : Ending → World → Prop} (h : CallsG n args w R) (k : ∀ e w', R e w' → R' e w')
  (hG : Gl w := by first | exact HG.out | exact Gl.drewN HG.out _ | exact Gl.below HG.out HB.out | exact Gl.below HG.out (by repeat (first | exact HB.out | exact Below.refl _ _ | apply below_alloc | apply pw_below_drewN | apply below_drew1 | refine below_set ?_ (Aside0.out (by assumption)))) | (repeat (first | exact HG.out | apply Gl.drewN | apply Gl.drew | apply Gl.alloc))) : Calls Tryz.prog n args w R' := (h hG).mono k
end Go.Proofs.YtbbpcbjgekencaaGreatDoor.Q
end
section
set_option linter.unusedVariables false
set_option linter.unusedSimpArgs false
namespace Go.Proofs.YtbbpcbjgekencaaGreatDoor.Laid
open Go.ChangeShapes Go.WideShapes Go.RowKit Go.Proofs.YtbbpcbjgekencaaGreatDoor.Q
abbrev rows {H : Type} : List (String × DataW H) := [("lockfast/class.blocks", Rows.laid_lockfast_class_blocks)]
theorem named : Tryz.prog.globalNamed "lockfast/class.blocks" = some 0 := by kernel_rfl
theorem typed : (Tryz.prog.globals[0]?).map (·.type) = some 159 := by kernel_rfl
theorem cellsT : Tryz.prog.cellsOf 159 = 3 := by kernel_rfl
theorem cellsE : Tryz.prog.cellsOf 3 = 1 := by kernel_rfl
theorem int_of_trod {H : Type} {enc : TypeId × Value → H} {P : Program} {w : World} {base : Nat} {sp : Nat → Bool} {held : Bool} {fuel : Nat} {t : TypeId} {k : IntKind} {c : Value} {y : DataW H × List MemPlace}
  (ht : P.underlying t = some (.int k)) (h : DataW.trod enc P w base sp held fuel t [c] = some y) : ∃ n, c = .int k n ∧ y = (.lit (.int k n), []) := by
 cases fuel with
 | zero => simp [DataW.trod] at h
 | succ fuel =>
  cases c <;> simp [DataW.trod, ht] at h
  rename_i k' n
  obtain ⟨⟨rfl, _⟩, rfl⟩ := h
  exact ⟨n, rfl, rfl⟩
def cells3 : Array Value := #[.int .i64 4, .int .i64 8, .int .i64 16]
theorem cells_of_laid {W : World} (h : laidMet Tryz.prog rows W) : W.var? Tryz.prog "lockfast/class.blocks" = some cells3 := by
 obtain ⟨ps, ⟨g, t, cs, fuel, p, q, hg, ht, hvar, hd, _, _⟩, _⟩ := h
 obtain rfl := Option.some.inj (named.symm.trans hg)
 obtain rfl := Option.some.inj (typed.symm.trans ht)
 rw [hvar]
 congr 1
 obtain ⟨l⟩ := cs
 cases fuel with
 | zero => simp [DataW.trod] at hd
 | succ fuel =>
  simp only [DataW.trod, Tryz.underlying159, cellsT, cellsE] at hd
  split at hd
  ·rename_i hl
   obtain ⟨c0, c1, c2, rfl⟩ : ∃ c0 c1 c2, l = [c0, c1, c2] := by
    match l, hl with
    | [a, b, c], _ => exact ⟨a, b, c, rfl⟩
   have e : List.range 3 = [0, 1, 2] := rfl
   rw [e] at hd
   simp only [Option.map_eq_some_iff, List.mapM_cons, List.mapM_nil, Option.bind_eq_bind, Option.bind_eq_some_iff, Option.pure_def, Option.some.injEq] at hd
   obtain ⟨xs, ⟨y0, h0, _, ⟨y1, h1, _, ⟨y2, h2, _, rfl, rfl⟩, rfl⟩, rfl⟩, hx⟩ := hd
   obtain ⟨n0, rfl, rfl⟩ := int_of_trod Tryz.underlying3 h0
   obtain ⟨n1, rfl, rfl⟩ := int_of_trod Tryz.underlying3 h1
   obtain ⟨n2, rfl, rfl⟩ := int_of_trod Tryz.underlying3 h2
   simp [Rows.laid_lockfast_class_blocks] at hx
   obtain ⟨⟨rfl, rfl, rfl⟩, _⟩ := hx
   rfl
  ·cases hd
theorem gl {W : World} (h : laidMet Tryz.prog rows W) : Gl W := by
 have hv := cells_of_laid h
 refine ⟨?_, ?_, ?_⟩
 ·simpa [cells3] using World.var?_cell named hv 0
 ·simpa [cells3] using World.var?_cell named hv 1
 ·simpa [cells3] using World.var?_cell named hv 2
noncomputable def laidWorld (os : Os) : World :=
 { World.holding Tryz.prog os ⟨#[], #[], []⟩ with heap := (World.holding Tryz.prog os ⟨#[], #[], []⟩).heap.modify 0 fun
   | .cells _ t frozen => .cells cells3 t frozen
   | o => o }
theorem laidWorld_row (os : Os) (args : Array Value) : ((laidWorld os).forCall (fun _ _ => 0) ⟨#[], args, []⟩).memory.heap[0]? = some (.cells cells3 159 (0, 0)) := by kernel_rfl
set_option maxRecDepth 100000 in
theorem laidWorld_met (os : Os) (args : Array Value) : laidMet Tryz.prog rows ((laidWorld os).forCall (fun _ _ => 0) ⟨#[], args, []⟩).memory := by
 refine ⟨_, ⟨0, 159, cells3, 8, [], [], by kernel_rfl, by kernel_rfl, by kernel_rfl, by kernel_rfl, rfl, rfl⟩, by decide, fun b off h => ?_⟩
 have h' : MemPlace.cell b off ∈ [MemPlace.cell 0 0, .cell 0 1, .cell 0 2] := h
 have hb : b = 0 := by
  simp at h'
  omega
 subst hb
 refine ⟨⟨_, _, laidWorld_row os args⟩, fun u v hc => ?_⟩
 simp only [World.cell?, laidWorld_row os args] at hc
 simp at h'
 rcases h' with rfl | rfl | rfl <;> simp [cells3] at hc
end Go.Proofs.YtbbpcbjgekencaaGreatDoor.Laid
end
