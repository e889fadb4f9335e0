import Derived.Test.YtbbpcbjgekencaaGreatDoorM12
section
set_option linter.unusedVariables false
set_option linter.unusedSimpArgs false
set_option linter.unusedVariables false
set_option linter.unusedSimpArgs false
namespace Go.Proofs.YtbbpcbjgekencaaGreatDoor.PS
open Go Go.Proofs.YtbbpcbjgekencaaGreatDoor.Q Go.Proofs.YtbbpcbjgekencaaGreatDoor.FT Go.Proofs.YtbbpcbjgekencaaGreatDoor.Ev
theorem U64_set {x : List Int} (hx : U64 x) (i : Nat) (v : Int) (hv : Wd v) : U64 (x.set i v) := by
 intro y hy
 rcases List.mem_or_eq_of_mem_set hy with h | rfl
 ·exact hx y h
 ·exact hv
def over (m : List Int) (a : Nat) (l : List Int) : List Int := m.take a ++ (l ++ m.drop (a + l.length))
theorem over_len (m : List Int) (a : Nat) (l : List Int) (h : a + l.length ≤ m.length) : (over m a l).length = m.length := by
 unfold over
 simp only [List.length_append, List.length_take, List.length_drop]
 omega
theorem over_U64 {m : List Int} {l : List Int} (a : Nat) (hm : U64 m) (hl : U64 l) : U64 (over m a l) := by
 intro y hy
 unfold over at hy
 rcases List.mem_append.mp hy with h | h
 ·exact hm y (List.mem_of_mem_take h)
 ·rcases List.mem_append.mp h with h | h
  ·exact hl y h
  ·exact hm y (List.mem_of_mem_drop h)
theorem put_l (a : Nat) (l : List Int) (n : Nat) (hn : n ≤ 1048576) (hfit : a + l.length ≤ n) : ∀ (d i : Nat) (m : List Int), l.length - i = d → i ≤ l.length → m.length = n →
  Evt (fun k => r15_put.c1 k (a : Int) l (i : Int) m) (over m (a + i) (l.drop i)) := by
 intro d
 induction d with
 | zero =>
  intro i m hd hi hm
  obtain rfl : i = l.length := by omega
  have e : over m (a + l.length) (l.drop l.length) = m := by unfold over; simp
  rw [e]
  exact Evt.step (f := fun _ => some m) (fun k => by rw [r15_put.c1, if_neg (by simp)]) (Evt.some _)
 | succ d ih =>
  intro i m hd hi hm
  have hlt : i < l.length := by omega
  have hn2 := ih (i + 1) (m.set (a + i) l[i]) (by omega) (by omega) (by simpa using hm)
  refine Evt.step (f := fun k => r15_put.c1 k (a : Int) l ((i + 1 : Nat) : Int) (m.set (a + i) l[i])) (fun k => ?_) (hn2.eq ?_)
  ·have e : IntKind.i64.wrap ((a : Int) + (i : Int)) = ((a + i : Nat) : Int) := i64w (by omega) (by omega)
   rw [r15_put.c1, if_pos (decide_eq_true (by omega)), e, if_pos (decide_eq_true (by omega)), if_pos (by omega), if_pos (by omega), if_pos (by omega), if_pos (by omega), if_pos (by omega), gd l i 0 hlt, i64w (by omega) (by omega)]
   rfl
  ·rw [List.drop_eq_getElem_cons hlt]
   unfold over
   rw [show a + (i + 1) = a + i + 1 by omega]
   have h1 : (m.set (a + i) l[i]).take (a + i + 1) = m.take (a + i) ++ [l[i]] := by
    rw [List.take_succ_eq_append_getElem (by rw [List.length_set]; omega), List.take_set_of_le (by omega), List.getElem_set_self]
   have h2 : (m.set (a + i) l[i]).drop (a + i + 1 + (l.drop (i + 1)).length) = m.drop (a + i + (l[i] :: l.drop (i + 1)).length) := by
    rw [List.drop_set_of_lt (by omega)]
    congr 1
    rw [List.length_cons]
    omega
   rw [h1, h2, List.append_assoc]
   rfl
theorem put_eq (a : Nat) (l m : List Int) (hn : m.length ≤ 1048576) (hfit : a + l.length ≤ m.length) : Evt (fun k => r15_put.f k (a : Int) l m) (over m a l) :=
 put_l a l m.length hn hfit l.length 0 m (by omega) (by omega) rfl
theorem over_at (m : List Int) (a : Nat) (l : List Int) (h : a + l.length ≤ m.length) (j : Nat) : (over m a l)[j]? = if a ≤ j ∧ j < a + l.length then l[j - a]? else m[j]? := by
 unfold over
 by_cases h1 : j < a
 ·rw [List.getElem?_append_left (by rw [List.length_take]; omega), List.getElem?_take, if_pos h1, if_neg (by omega)]
 ·have e : (m.take a).length = a := by rw [List.length_take]; omega
  rw [List.getElem?_append_right (by omega), e]
  by_cases h2 : j < a + l.length
  ·rw [List.getElem?_append_left (by omega), if_pos ⟨by omega, h2⟩]
  ·rw [List.getElem?_append_right (by omega), List.getElem?_drop, if_neg (by omega)]
   congr 1
   omega
theorem make_end (w l : Int) (m : List Int) : Evt (fun k => r15_Make.c17 k 0 [] [] w l m) m := by
 refine Evt.step (f := fun k => r15_Make.c41 k 0 [] m) (fun k => by rw [r15_Make.c17, if_neg (by simp)]) ?_
 refine Evt.step (f := fun k => r15_Make.c45 k m) (fun k => by rw [r15_Make.c41, if_neg (by simp), if_neg (by simp)]) ?_
 exact Evt.step (f := fun _ => some m) (fun k => by rw [r15_Make.c45]) (Evt.some _)
theorem fill_l (w l : Int) (F : List Int) (hF : U64 F) (hFl : F.length ≤ 1048576) : ∀ (d i : Nat) (m : List Int), m.length - i = d → i ≤ m.length → m.length ≤ 1048576 → U64 m →
  ∃ r, Evt (fun k => r15_Make.c11 k (i : Int) F [] [] w l m) r ∧ r.length = m.length ∧ U64 r ∧ ∀ j, j < i → r[j]? = m[j]? := by
 intro d
 induction d with
 | zero =>
  intro i m hd hi hm hU
  refine ⟨m, Evt.step (fun k => ?_) (make_end w l m), rfl, hU, fun j _ => rfl⟩
  rw [r15_Make.c11, if_neg (by simp; omega)]
 | succ d ih =>
  intro i m hd hi hm hU
  have hlt : i < m.length := by omega
  by_cases h0 : F.length = 0
  ·refine ⟨m, Evt.step (fun k => ?_) (make_end w l m), rfl, hU, fun j _ => rfl⟩
   rw [r15_Make.c11, if_pos (decide_eq_true (by omega)), if_neg (by rw [decide_eq_true_eq]; omega)]
  ·have hp : i % F.length < F.length := Nat.mod_lt _ (by omega)
   have ht : Int.tmod (i : Int) (F.length : Int) = ((i % F.length : Nat) : Int) := by rw [Int.tmod_eq_emod_of_nonneg (by omega)]; norm_cast
   obtain ⟨r, hr, hl, hU2, hj⟩ := ih (i + 1) (m.set i F[i % F.length]) (by rw [List.length_set]; omega) (by rw [List.length_set]; omega) (by rw [List.length_set]; omega) (U64_set hU _ _ (hF _ (List.getElem_mem hp)))
   refine ⟨r, Evt.step (fun k => ?_) hr, by rw [hl, List.length_set], hU2, fun j hji => ?_⟩
   ·rw [r15_Make.c11, if_pos (decide_eq_true (by omega)), if_pos (decide_eq_true (by omega)), if_neg (by omega), ht, if_pos (by omega), if_pos (by omega), if_pos (by omega), if_pos (by omega), if_pos (by omega), gd F _ 0 hp, i64w (by omega) (by omega)]
    rfl
   ·rw [hj j (by omega), List.getElem?_set_ne (by omega)]
structure Pool0 (x : List Int) (l : Int) (ds : List Chk) (root epoch : Int) : Prop where
 geo : Geo (x.length : Int) l
 u : U64 x
 head : x.take 8 = H.headL (x.length : Int) l (chunksG (x.length : Int) l)
 root : wd x 8 = root
 epoch : wd x 9 = epoch
 marks : ∀ i : Nat, (i : Int) < l → wd x (10 + (i : Int)) = 0
 zeros : ∀ j : Nat, 10 ≤ j → (j : Int) < tabAt l → wd x (j : Int) = 0
 tab : tabL x l = ds.map encC
 ds : Tabl ds
theorem headL_U64 (w l n : Int) (hw : Wd w) (hl : Wd l) (hn : Wd n) : U64 (H.headL w l n) := by
 intro x hx
 have h7 := sealL_lt [6076272092419149644, 1, w, l, n, 0, 0]
 unfold H.headL H.l7 at hx
 simp only [List.cons_append, List.nil_append, List.mem_cons, List.not_mem_nil, or_false] at hx
 rcases hx with rfl | rfl | rfl | rfl | rfl | rfl | rfl | rfl
 ·exact ⟨by decide, by decide⟩
 ·exact ⟨by decide, by decide⟩
 ·exact hw
 ·exact hl
 ·exact hn
 ·exact ⟨by decide, by decide⟩
 ·exact ⟨by decide, by decide⟩
 ·exact ⟨h7.1, by omega⟩
theorem wd_get (x : List Int) (i : Nat) : wd x (i : Int) = (x[i]?).getD 0 := by
 unfold wd
 rw [Int.toNat_natCast, List.getD_eq_getElem?_getD]
def geoL (a : Int) : Int := 1 + a % 3
def geoN (b : Int) : Int := 1 + b % 8
def geoW (a b : Int) : Int := 10 + 73 * geoL a + 33 * geoN b
theorem geoW_chunks (a b : Int) : chunksG (geoW a b) (geoL a) = geoN b := by
 unfold chunksG geoW geoL geoN
 rw [if_pos (by omega)]
 omega
theorem geometry_eq (k : Nat) (a b : Int) (ha : 0 ≤ a) (hb : 0 ≤ b) (t f : List Int) (i4 : List S94) (r e : Int) (sp : List S35) : r15_Geometry.f k a b t f i4 r e sp = some (geoW a b, geoL a) := by
 unfold r15_Geometry.f r05_Small.f
 rw [Int.tmod_eq_emod_of_nonneg ha, Int.tmod_eq_emod_of_nonneg hb, Int.tmod_eq_emod_of_nonneg (by omega), Int.tmod_eq_emod_of_nonneg (by omega)]
 rw [i64w (x := a % 3 % 64) (by omega) (by omega), i64w (x := b % 8 % 200) (by omega) (by omega), i64w (x := Int.tmod 0 33) (by decide) (by decide)]
 rw [i64w (x := 1 + a % 3 % 64) (by omega) (by omega), i64w (x := 1 + b % 8 % 200) (by omega) (by omega), i64w (x := 73 * (1 + a % 3 % 64)) (by omega) (by omega), i64w (x := 33 * (1 + b % 8 % 200)) (by omega) (by omega)]
 rw [i64w (x := 10 + 73 * (1 + a % 3 % 64)) (by omega) (by omega), i64w (x := 10 + 73 * (1 + a % 3 % 64) + 33 * (1 + b % 8 % 200)) (by omega) (by omega)]
 rw [show Int.tmod 0 33 = 0 by decide, i64w (by omega) (by omega), Option.bind_some]
 unfold geoW geoL geoN
 congr 2
 ·omega
 ·omega
theorem make_eq (Q : Chk → Prop) (q0 : Q freeC) (q3 : Q tailC) (a b : Int) (ha : 0 ≤ a) (hb : 0 ≤ b) (t F : List Int) (hq : ∀ x ∈ t, Q (numC x.toNat)) (ht : ∀ x ∈ t, 0 ≤ x ∧ x ≤ 65535) (htl : t.length ≤ 1048576) (hF : U64 F) (hFl : F.length ≤ 1048576) (root epoch : Int) (hr : Wd root) (he : Wd epoch) :
  ∃ x ds, Evt (fun k => r15_Make.f k a b t F [] root epoch []) x ∧ Pool0 x (geoL a) ds root epoch ∧ (x.length : Int) = geoW a b ∧ ∀ c ∈ ds, Q c := by
 have hch := geoW_chunks a b
 have hL : 1 ≤ geoL a ∧ geoL a ≤ 3 := by unfold geoL; omega
 have hNN : 1 ≤ geoN b ∧ geoN b ≤ 8 := by unfold geoN; omega
 have hW : geoW a b = 10 + 73 * geoL a + 33 * geoN b := rfl
 have hg : Geo (geoW a b) (geoL a) := by unfold Geo; omega
 obtain ⟨W, hWn⟩ : ∃ W : Nat, geoW a b = (W : Int) := ⟨(geoW a b).toNat, by omega⟩
 obtain ⟨ds, hds, hdl, hdq, hmade⟩ := made_eq Q q0 q3 t hq (geoN b) (by omega) htl ht
 have hhl : (H.headL (geoW a b) (geoL a) (geoN b)).length = 8 := rfl
 have hhU : U64 (H.headL (geoW a b) (geoL a) (geoN b)) := headL_U64 _ _ _ ⟨by omega, by omega⟩ ⟨by omega, by omega⟩ ⟨by omega, by omega⟩
 generalize hHd : H.headL (geoW a b) (geoL a) (geoN b) = Hd at hhl hhU
 have hrep : (List.replicate W (0 : Int)).length = W := List.length_replicate
 have hrepU : U64 (List.replicate W (0 : Int)) := fun y hy => by rw [List.eq_of_mem_replicate hy]; exact ⟨by decide, by decide⟩
 have h2l := over_len (List.replicate W (0 : Int)) 0 Hd (by omega)
 have h2U := over_U64 0 hrepU hhU
 have h2a := over_at (List.replicate W (0 : Int)) 0 Hd (by omega)
 have hput1 := put_eq 0 Hd (List.replicate W (0 : Int)) (by omega) (by omega)
 generalize over (List.replicate W (0 : Int)) 0 Hd = y2 at h2l h2U h2a hput1
 obtain ⟨T, hT⟩ : ∃ T : Nat, tabAt (geoL a) = (T : Int) := ⟨(tabAt (geoL a)).toNat, by unfold tabAt; omega⟩
 have hT2 : (T : Int) = 10 + 73 * geoL a := by rw [← hT]; rfl
 have h3U : U64 ((y2.set 8 root).set 9 epoch) := U64_set (U64_set h2U _ _ hr) _ _ he
 have h3l : ((y2.set 8 root).set 9 epoch).length = W := by simp; omega
 have h3a : ∀ j, ((y2.set 8 root).set 9 epoch)[j]? = if j = 9 then some epoch else if j = 8 then some root else y2[j]? := fun j => by
  rw [List.getElem?_set]
  by_cases h9 : 9 = j
  ·subst h9; rw [if_pos rfl, if_pos rfl, if_pos (by simp; omega)]
  ·rw [if_neg h9, if_neg (fun h => h9 h.symm), List.getElem?_set]
   by_cases h8 : 8 = j
   ·subst h8; rw [if_pos rfl, if_pos rfl, if_pos (by omega)]
   ·rw [if_neg h8, if_neg (fun h => h8 h.symm)]
 have htU := U64_enc ds hds.ok
 have htl2 : (ds.map encC).length = ds.length := List.length_map ..
 have h5l := over_len ((y2.set 8 root).set 9 epoch) T (ds.map encC) (by omega)
 have h5U := over_U64 T h3U htU
 have h5a := over_at ((y2.set 8 root).set 9 epoch) T (ds.map encC) (by omega)
 have hput2 := put_eq T (ds.map encC) ((y2.set 8 root).set 9 epoch) (by omega) (by omega)
 generalize over ((y2.set 8 root).set 9 epoch) T (ds.map encC) = y5 at h5l h5U h5a hput2
 obtain ⟨x, hx, hxl, hxU, hxa⟩ := fill_l (geoW a b) (geoL a) F hF hFl _ (T + (geoN b).toNat) y5 rfl (by omega) (by omega) h5U
 have hlen : (x.length : Int) = geoW a b := by omega
 have hat : ∀ j, j < T + (geoN b).toNat → x[j]? = if T ≤ j ∧ j < T + ds.length then (ds.map encC)[j - T]? else if j = 9 then some epoch else if j = 8 then some root else if j < 8 then Hd[j]? else some 0 := fun j hj => by
  rw [hxa j hj, h5a, htl2, h3a, h2a]
  split
  ·rfl
  ·split
   ·rfl
   ·split
    ·rfl
    ·by_cases h8 : j < 8
     ·rw [if_pos h8, if_pos ⟨Nat.zero_le _, by omega⟩]; rfl
     ·rw [if_neg h8, if_neg (by omega), List.getElem?_replicate, if_pos (by omega)]
 refine ⟨x, ds ++ List.replicate ((geoN b).toNat - ds.length) freeC, ?_, ⟨by rw [hlen]; exact hg, hxU, ?_, ?_, ?_, ?_, fun j h1 h2 => ?_, ?_, hds.free _⟩, hlen, fun c hc => (List.mem_append.mp hc).elim (hdq c) fun h => (List.mem_replicate.mp h).2 ▸ q0⟩
 ·unfold r15_Make.f
  refine Evt.bind (Evt.of fun k => geometry_eq k a b ha hb t F [] root epoch []) ?_
  refine Evt.congr (f := fun k => (r06_Encode.f k (geoW a b) (geoL a)).bind fun y1 => (r15_put.f k 0 y1.snd (List.replicate W (0 : Int))).bind fun y2 => if 8 < (y2.length : Int) then if Int.toNat 8 < y2.length then if 9 < ((y2.set (Int.toNat 8) root).length : Int) then if Int.toNat 9 < (y2.set (Int.toNat 8) root).length then (r05_Table.f k (geoW a b) (geoL a)).bind fun y3 => (r11_Made.f k t y3.snd).bind fun y4 => (r15_put.f k y3.fst y4 ((y2.set (Int.toNat 8) root).set (Int.toNat 9) epoch)).bind fun y5 => r15_Make.c11 k (IntKind.i64.wrap (y3.fst + y3.snd)) F [] [] (geoW a b) (geoL a) y5 else none else none else none else none) ?_ (fun k => by
   dsimp only
   rw [hWn, if_pos (by omega), if_pos (by omega), if_pos (by omega)]
   rfl)
  refine Evt.bind (refEnc_yes _ _ hg (by omega)) ?_
  rw [hch, hHd]
  refine Evt.bind hput1 ?_
  refine Evt.congr (f := fun k => (r05_Table.f k (geoW a b) (geoL a)).bind fun y3 => (r11_Made.f k t y3.snd).bind fun y4 => (r15_put.f k y3.fst y4 ((y2.set 8 root).set 9 epoch)).bind fun y5 => r15_Make.c11 k (IntKind.i64.wrap (y3.fst + y3.snd)) F [] [] (geoW a b) (geoL a) y5) ?_ (fun k => by
   rw [if_pos (by omega), if_pos (by show 8 < y2.length; omega), if_pos (by rw [List.length_set]; omega), if_pos (by rw [List.length_set]; show 9 < y2.length; omega)]
   rfl)
  refine Evt.bind (Evt.at 2000 fun k => refTable_eq k _ _ hg) ?_
  rw [hch]
  refine Evt.bind hmade ?_
  rw [hT]
  refine Evt.bind hput2 ?_
  refine Evt.congr hx (fun k => ?_)
  dsimp only
  rw [i64w (by omega) (by omega), show (T : Int) + geoN b = ((T + (geoN b).toNat : Nat) : Int) by omega]
 ·rw [hlen, hch, hHd]
  apply List.ext_getElem?
  intro j
  rw [List.getElem?_take]
  by_cases h8 : j < 8
  ·rw [if_pos h8, hat j (by omega), if_neg (by omega), if_neg (by omega), if_neg (by omega), if_pos h8]
  ·rw [if_neg h8, List.getElem?_eq_none (by omega)]
 ·rw [show (8 : Int) = ((8 : Nat) : Int) from rfl, wd_get, hat 8 (by omega), if_neg (by omega), if_neg (by omega), if_pos rfl]
  rfl
 ·rw [show (9 : Int) = ((9 : Nat) : Int) from rfl, wd_get, hat 9 (by omega), if_neg (by omega), if_pos rfl]
  rfl
 ·intro i hi
  rw [show (10 : Int) + (i : Int) = ((10 + i : Nat) : Int) by omega, wd_get, hat (10 + i) (by omega), if_neg (by omega), if_neg (by omega), if_neg (by omega), if_neg (by omega)]
  rfl
 ·rw [wd_get, hat j (by omega), if_neg (by omega), if_neg (by omega), if_neg (by omega), if_neg (by omega)]
  rfl
 ·unfold tabL
  rw [hlen, hch, hT, List.map_append, List.map_replicate]
  have e0 : encC freeC = 0 := by decide
  rw [e0]
  apply List.ext_getElem?
  intro j
  rw [List.getElem?_drop, List.getElem?_take]
  have hTt : ((T : Int)).toNat = T := Int.toNat_natCast T
  rw [hTt]
  by_cases hj : j < (geoN b).toNat
  ·rw [if_pos (by omega), hat (T + j) (by omega)]
   by_cases hj2 : j < ds.length
   ·rw [if_pos ⟨by omega, by omega⟩, List.getElem?_append_left (by omega), show T + j - T = j by omega]
   ·rw [if_neg (by omega), if_neg (by omega), if_neg (by omega), if_neg (by omega), List.getElem?_append_right (by omega), List.getElem?_replicate, if_pos (by omega)]
  ·rw [if_neg (by omega), List.getElem?_eq_none (by simp; omega)]
end Go.Proofs.YtbbpcbjgekencaaGreatDoor.PS
end
section
set_option linter.unusedVariables false
set_option linter.unusedSimpArgs false
set_option linter.unusedVariables false
set_option linter.unusedSimpArgs false
namespace Go.Proofs.YtbbpcbjgekencaaGreatDoor.PS
open Go Go.Proofs.YtbbpcbjgekencaaGreatDoor.Q Go.Proofs.YtbbpcbjgekencaaGreatDoor.FT Go.Proofs.YtbbpcbjgekencaaGreatDoor.Ev
def lo (b : Blk) : Int := 32 * b.f0 + b.f1 * b.f2
def hi (b : Blk) : Int := lo b + b.f2
noncomputable def blkFrom (a : Nat) (l : List Chk) : List Blk := (l.zipIdx a).flatMap fun p => H.blkOne p.2 p.1
theorem blkFrom_cons (a : Nat) (c : Chk) (l : List Chk) : blkFrom a (c :: l) = H.blkOne a c ++ blkFrom (a + 1) l := by simp [blkFrom]
theorem noOnes {c : Chk} (h : c.f4 = 0) : H.onesI c.f4 (H.manyW c.f1) = [] := by
 unfold H.onesI H.ones
 rw [List.map_eq_nil_iff, List.filter_eq_nil_iff]
 intro x hx
 rw [h]
 unfold H.bitAt
 rw [Int.zero_ediv]
 decide
theorem one_run (a : Nat) {c : Chk} (hc : OkC c) (hk : c.f0 = 1) : (∀ b ∈ H.blkOne a c, 32 * (a : Int) ≤ lo b ∧ hi b ≤ 32 * ((a + 1 : Nat) : Int)) ∧ (H.blkOne a c).Pairwise fun b d => hi b ≤ lo d := by
 have hrun := hc.run hk
 have e : H.blkOne a c = (H.onesI c.f4 (H.manyW c.f1)).map (H.mkB a c.f1) := by
  unfold H.blkOne H.huge
  rw [if_neg (by omega), List.nil_append]
 rw [e]
 obtain ⟨w, M, hw, hM, hwM⟩ : ∃ w M : Int, H.blockW c.f1 = w ∧ H.manyW c.f1 = M ∧ (w = 4 ∧ M = 8 ∨ w = 8 ∧ M = 4 ∨ w = 16 ∧ M = 2) := by
  rcases hrun.2.2 with h | h | h <;> rw [h.1]
  ·exact ⟨4, 8, by decide, by decide, by omega⟩
  ·exact ⟨8, 4, by decide, by decide, by omega⟩
  ·exact ⟨16, 2, by decide, by decide, by omega⟩
 rw [hM]
 constructor
 ·intro b hb
  rw [List.mem_map] at hb
  obtain ⟨j, hj, rfl⟩ := hb
  unfold H.onesI at hj
  rw [List.mem_map] at hj
  obtain ⟨n, hn, rfl⟩ := hj
  unfold H.ones at hn
  rw [List.mem_filter, List.mem_range] at hn
  unfold hi lo H.mkB
  rw [hw]
  show 32 * (a : Int) ≤ 32 * (a : Int) + (n : Int) * w ∧ 32 * (a : Int) + (n : Int) * w + w ≤ _
  rcases hwM with h | h | h <;> rw [h.1] <;> omega
 ·unfold H.onesI H.ones
  rw [List.map_map, List.pairwise_map]
  refine List.Pairwise.imp ?_ (List.Pairwise.filter _ List.pairwise_lt_range)
  intro i j hij
  unfold hi lo H.mkB
  rw [hw]
  show 32 * (a : Int) + (i : Int) * w + w ≤ 32 * (a : Int) + (j : Int) * w
  rcases hwM with h | h | h <;> rw [h.1] <;> omega
theorem one_huge (a : Nat) {c : Chk} (hc : OkC c) (hk : c.f0 = 2) : H.blkOne a c = [⟨(a : Int), 0, 32 * c.f3⟩] := by
 have h := hc.huge hk
 unfold H.blkOne H.huge
 rw [if_pos hk, noOnes h.2.2.1, w64 (by omega), Int.mul_comm]
 rfl
theorem one_none (a : Nat) {c : Chk} (hc : OkC c) (h1 : c.f0 ≠ 1) (h2 : c.f0 ≠ 2) : H.blkOne a c = [] := by
 have h4 : c.f4 = 0 := by have := (okC_iff _).mp hc.1; omega
 unfold H.blkOne H.huge
 rw [if_neg h2, noOnes h4]
 rfl
theorem blk_sorted : ∀ (cs : List Chk) (a : Nat) (T : Int), (∀ c ∈ cs, OkC c) → 0 ≤ T → rightGo T cs = true → (∀ b ∈ blkFrom a cs, 32 * ((a : Int) + T) ≤ lo b) ∧ (blkFrom a cs).Pairwise fun b d => hi b ≤ lo d
 | [], a, T, _, _, _ => ⟨fun b hb => by simp [blkFrom] at hb, by simp [blkFrom]⟩
 | c :: cs, a, T, hok, hT, h => by
  have hc := hok c List.mem_cons_self
  have hok' : ∀ d ∈ cs, OkC d := fun d hd => hok d (List.mem_cons_of_mem _ hd)
  rw [rightGo] at h
  split at h
  case isFalse => cases h
  rename_i hiff
  rw [blkFrom_cons]
  by_cases h3 : c.f0 = 3
  ·have hp := hiff.1 h3
   rw [if_pos h3] at h
   rw [one_none a hc (by omega) (by omega), List.nil_append]
   obtain ⟨i1, i2⟩ := blk_sorted cs (a + 1) (T - 1) hok' (by omega) h
   exact ⟨fun b hb => by have := i1 b hb; omega, i2⟩
  ·rw [if_neg h3] at h
   have hT0 : T = 0 := by have : ¬ T > 0 := fun hp => h3 (hiff.2 hp); omega
   subst hT0
   by_cases h2 : c.f0 = 2
   ·have hh := hc.huge h2
    rw [if_pos h2] at h
    obtain ⟨i1, i2⟩ := blk_sorted cs (a + 1) (c.f3 - 1) hok' (by omega) h
    rw [one_huge a hc h2, List.singleton_append]
    have e1 : lo ⟨(a : Int), 0, 32 * c.f3⟩ = 32 * (a : Int) := by unfold lo; show 32 * (a : Int) + 0 * (32 * c.f3) = _; omega
    have e2 : hi ⟨(a : Int), 0, 32 * c.f3⟩ = 32 * (a : Int) + 32 * c.f3 := by unfold hi; rw [e1]
    refine ⟨fun b hb => ?_, List.pairwise_cons.mpr ⟨fun b hb => ?_, i2⟩⟩
    ·rcases List.mem_cons.mp hb with rfl | hb
     ·rw [e1]; omega
     ·have := i1 b hb; omega
    ·have := i1 b hb
     rw [e2]
     omega
   ·rw [if_neg h2] at h
    obtain ⟨i1, i2⟩ := blk_sorted cs (a + 1) 0 hok' (by omega) h
    by_cases h1 : c.f0 = 1
    ·obtain ⟨r1, r2⟩ := one_run a hc h1
     refine ⟨fun b hb => ?_, List.pairwise_append.mpr ⟨r2, i2, fun b hb d hd => ?_⟩⟩
     ·rcases List.mem_append.mp hb with hb | hb
      ·have := (r1 b hb).1; omega
      ·have := i1 b hb; omega
     ·have := (r1 b hb).2
      have := i1 d hd
      omega
    ·rw [one_none a hc h1 h2, List.nil_append]
     exact ⟨fun b hb => by have := i1 b hb; omega, i2⟩
theorem blks_apart (cs : List Chk) (hok : ∀ c ∈ cs, OkC c) (h : rightGo 0 cs = true) : (blks cs).Pairwise fun b d => hi b ≤ lo d := (blk_sorted cs 0 0 hok (by omega) h).2
theorem place_lo (w l : Int) (b : Blk) : placeG w l b = heapAt w l + lo b := by unfold placeG lo; omega
end Go.Proofs.YtbbpcbjgekencaaGreatDoor.PS
end
section
set_option linter.unusedVariables false
set_option linter.unusedSimpArgs false
set_option linter.unusedVariables false
set_option linter.unusedSimpArgs false
namespace Go.Proofs.YtbbpcbjgekencaaGreatDoor.PS
open Go Go.Proofs.YtbbpcbjgekencaaGreatDoor.Q Go.Proofs.YtbbpcbjgekencaaGreatDoor.FT Go.Proofs.YtbbpcbjgekencaaGreatDoor.Ev
def oneV (L : List Int) (i : Nat) : Int := L.getD (i % L.length) 0
def B8 (L : List Int) : Prop := ∀ x ∈ L, 0 ≤ x ∧ x ≤ 255
theorem oneV_rng {L : List Int} (h : B8 L) (i : Nat) : 0 ≤ oneV L i ∧ oneV L i ≤ 255 := by
 unfold oneV
 rw [List.getD_eq_getElem?_getD]
 cases e : L[i % L.length]? with
 | none => exact ⟨by decide, by decide⟩
 | some v => exact h v (List.mem_of_getElem? e)
theorem one_eq (k : Nat) {L : List Int} (h : B8 L) (hl : L.length ≤ 1048576) (i : Nat) : r16_one.f k L (i : Int) = some (oneV L i) := by
 have hr := oneV_rng h i
 unfold r16_one.f
 by_cases h0 : L.length = 0
 ·obtain rfl := List.length_eq_zero_iff.mp h0
  rfl
 ·have hp : i % L.length < L.length := Nat.mod_lt _ (by omega)
  have ht : Int.tmod (i : Int) (L.length : Int) = ((i % L.length : Nat) : Int) := by rw [Int.tmod_eq_emod_of_nonneg (by omega)]; norm_cast
  rw [if_neg (by rw [beq_iff_eq]; omega), if_neg (by omega), ht, if_pos (by omega), if_pos (by omega), Int.toNat_natCast]
  show some (IntKind.i64.wrap (oneV L i)) = _
  rw [i64w (by omega) (by omega)]
def sizeS (w o : Int) : Int := if w = 4 then 2 - o % 3 else if w = 8 then 6 - o % 4 else if w = 16 then 14 - o % 8 else w - 2 - o % 16
def hdW (T L : List Int) (b : Blk) (i : Nat) : Int := 18038886832455811072 + 65536 * sizeS b.f2 (oneV L i) + (1 + oneV T i)
def serW (E : Int) (i : Nat) : Int := 4294967296 * E + ((i : Int) + 1)
def layB (w l E R : Int) (T L x : List Int) (b : Blk) (i : Nat) : List Int :=
 if R = (i : Int) + 1 then ((x.set (placeG w l b).toNat (hdW T L b i)).set (placeG w l b + 1).toNat (serW E i)).set 8 (placeG w l b)
 else (x.set (placeG w l b).toNat (hdW T L b i)).set (placeG w l b + 1).toNat (serW E i)
def layG (w l E R : Int) (T L : List Int) : List Int → Nat → List Blk → List Int
 | x, _, [] => x
 | x, i, b :: bs => layG w l E R T L (layB w l E R T L x b i) (i + 1) bs
theorem layB_len (w l E R : Int) (T L x : List Int) (b : Blk) (i : Nat) : (layB w l E R T L x b i).length = x.length := by unfold layB; split <;> simp
theorem sizeS_rng {b : Blk} (hs : SzOk b) {n : Int} (hn : n ≤ 128) (hb : BlkIn n b) {o : Int} (ho : 0 ≤ o ∧ o ≤ 255) : 0 ≤ sizeS b.f2 o ∧ sizeS b.f2 o + 2 ≤ b.f2 ∧ sizeS b.f2 o ≤ 4096 ∧ roomS (sizeS b.f2 o) = b.f2 := by
 have hfit := hb.fit
 have hm := hb.mul
 have h0 := hb.c0
 unfold roomS blockS chunksS sizeS
 rcases hs with (h | h | h) | ⟨_, m, hm1, h⟩
 ·rw [h]; simp only [if_pos]; omega
 ·rw [h]; simp only [if_pos, if_neg (show ¬ (8 : Int) = 4 by decide)]; split <;> (try split) <;> omega
 ·rw [h]; simp only [if_pos, if_neg (show ¬ (16 : Int) = 4 by decide), if_neg (show ¬ (16 : Int) = 8 by decide)]; split <;> (try split) <;> (try split) <;> omega
 ·rw [h, if_neg (by omega), if_neg (by omega), if_neg (by omega)]
  rw [h] at hfit hm
  omega
theorem stocked_l (T L : List Int) (hT : B8 T) (hL : B8 L) (hTl : T.length ≤ 1048576) (hLl : L.length ≤ 1048576) (w l E R : Int) (hE : 0 ≤ E ∧ E < 4294967296) (hR : 0 ≤ R ∧ R ≤ 255) (hg : Geo w l) (hn : chunksG w l ≤ 128) (hw : w ≤ 1048576)
  (bs : List Blk) (hlen : bs.length ≤ 1048576) (hb : ∀ b ∈ bs, BlkIn (chunksG w l) b ∧ SzOk b) : ∀ (d i : Nat) (x : List Int), bs.length - i = d → i ≤ bs.length → (x.length : Int) = w →
  Evt (fun k => r16_Stocked.c15 k (i : Int) T L E R x w l bs) (layG w l E R T L x i (bs.drop i)) := by
 intro d
 induction d with
 | zero =>
  intro i x hd hi hx
  obtain rfl : i = bs.length := by omega
  rw [List.drop_length]
  exact Evt.step (f := fun _ => some x) (fun k => by rw [r16_Stocked.c15, if_neg (by simp)]) (Evt.some _)
 | succ d ih =>
  intro i x hd hi hx
  have hlt : i < bs.length := by omega
  obtain ⟨hbi, hsz⟩ := hb _ (List.getElem_mem hlt)
  have ho := oneV_rng hL i
  have hty := oneV_rng hT i
  have hs := sizeS_rng hsz hn hbi ho
  have hf := place_fit (x := x) (l := l) (b := bs[i]) (by rw [hx]; exact hg) (by rw [hx]; exact hbi)
  rw [hx] at hf
  have hnx := ih (i + 1) (layB w l E R T L x bs[i] i) (by omega) (by omega) (by rw [layB_len]; exact hx)
  rw [List.drop_eq_getElem_cons hlt]
  show Evt _ (layG w l E R T L (layB w l E R T L x bs[i] i) (i + 1) (bs.drop (i + 1)))
  generalize hb' : bs[i] = b at hbi hsz hs hf hnx
  have hw4 := hbi.w0
  have hwm := hbi.fit
  have hmul := hbi.mul
  have hc0 := hbi.c0
  have hl1 := hg.l
  -- the last step
  have h18 : Evt (fun k => r16_Stocked.c18 k (i : Int) T L E R (layB w l E R T L x b i) w l bs) (layG w l E R T L (layB w l E R T L x b i) (i + 1) (bs.drop (i + 1))) :=
   Evt.step (fun k => by rw [r16_Stocked.c18, i64w (by omega) (by omega)]; rfl) hnx
  have h27 : Evt (fun k => r16_Stocked.c27 k (i : Int) (sizeS b.f2 (oneV L i)) T L E R x w l bs b.f0 b.f1 b.f2) (layG w l E R T L (layB w l E R T L x b i) (i + 1) (bs.drop (i + 1))) := by
   have hp0 := hf.1
   have hp1 := hf.2
   generalize hS : sizeS b.f2 (oneV L i) = S at hs
   refine Evt.step (f := fun k => (r16_Place.f k w l b.f0 b.f1 b.f2).bind fun y9 => if 0 ≤ y9 then if y9 < (x.length : Int) then if y9.toNat < x.length then if 0 ≤ IntKind.i64.wrap (y9 + 1) then if IntKind.i64.wrap (y9 + 1) < ((x.set y9.toNat (18038886832455811072 + 65536 * S + (1 + oneV T i))).length : Int) then if (IntKind.i64.wrap (y9 + 1)).toNat < (x.set y9.toNat (18038886832455811072 + 65536 * S + (1 + oneV T i))).length then if (IntKind.i64.wrap R == IntKind.i64.wrap ((i : Int) + 1)) = true then if 8 < (((x.set y9.toNat (18038886832455811072 + 65536 * S + (1 + oneV T i))).set (IntKind.i64.wrap (y9 + 1)).toNat (serW E i)).length : Int) then if Int.toNat 8 < ((x.set y9.toNat (18038886832455811072 + 65536 * S + (1 + oneV T i))).set (IntKind.i64.wrap (y9 + 1)).toNat (serW E i)).length then r16_Stocked.c18 k (i : Int) T L E R (((x.set y9.toNat (18038886832455811072 + 65536 * S + (1 + oneV T i))).set (IntKind.i64.wrap (y9 + 1)).toNat (serW E i)).set 8 (IntKind.u64.wrap y9)) w l bs else none else none else r16_Stocked.c18 k (i : Int) T L E R ((x.set y9.toNat (18038886832455811072 + 65536 * S + (1 + oneV T i))).set (IntKind.i64.wrap (y9 + 1)).toNat (serW E i)) w l bs else none else none else none else none else none else none) (fun k => ?_) ?_
   ·rw [r16_Stocked.c27, one_eq k hT hTl i]
    simp only [Option.bind_some]
    have e1 : IntKind.u64.wrap (IntKind.u64.wrap (4294967296 * IntKind.u64.wrap E) + IntKind.u64.wrap (IntKind.i64.wrap ((i : Int) + 1))) = serW E i := by
     unfold serW
     rw [i64w (x := (i : Int) + 1) (by omega) (by omega), u64w (x := E) (by omega) (by omega), u64w (x := 4294967296 * E) (by omega) (by omega), u64w (x := (i : Int) + 1) (by omega) (by omega), u64w (by omega) (by omega)]
    have e2 : r08_Encode.f k (IntKind.i64.wrap (1 + oneV T i)) S (serW E i) = some (0, [18038886832455811072 + 65536 * S + (1 + oneV T i), serW E i]) := by
     unfold r08_Encode.f
     rw [i64w (x := 1 + oneV T i) (by omega) (by omega), refOidRight_eq]
     have e : rightH (1 + oneV T i) S (serW E i) = true := by unfold rightH serW; exact decide_eq_true (by omega)
     rw [e, Option.bind_some, if_neg (by decide), u64w (x := S) (by omega) (by omega), u64w (x := 65536 * S) (by omega) (by omega), u64w (x := 18038886832455811072 + 65536 * S) (by omega) (by omega), u64w (x := 1 + oneV T i) (by omega) (by omega), u64w (by omega) (by omega)]
    rw [e1, e2]
    simp only [Option.bind_some]
    rfl
   ·refine Evt.bind (Evt.at 2000 fun k => refPlace_eq k w l b hg hbi) ?_
    have hl8 : 8 < x.length := by omega
    refine Evt.congr h18 (fun k => ?_)
    rw [i64w (x := placeG w l b + 1) (by omega) (by omega), if_pos hp0, if_pos (by omega), if_pos (by omega), if_pos (by omega), if_pos (by rw [List.length_set]; omega), if_pos (by rw [List.length_set]; omega), i64w (x := R) (by omega) (by omega), i64w (x := (i : Int) + 1) (by omega) (by omega)]
    unfold layB hdW
    rw [hS]
    by_cases hr : R = (i : Int) + 1
    ·rw [if_pos (by simpa using hr), if_pos hr, if_pos (by simp; omega), if_pos (by simp; omega), u64w (by omega) (by omega)]
    ·rw [if_neg (by simpa using hr), if_neg hr]
  have hsz2 : ∀ {a : Int}, 0 ≤ a → a ≤ 4094 → ∀ {n : Int}, 0 < n → n ≤ 16 → IntKind.i64.wrap (a - Int.tmod (oneV L i) n) = a - oneV L i % n := fun {a} ha ha2 {n} hn0 hn1 => by
   rw [Int.tmod_eq_emod_of_nonneg ho.1]
   have := Int.emod_nonneg (oneV L i) (show n ≠ 0 by omega)
   have := Int.emod_lt_of_pos (oneV L i) hn0
   exact i64w (by omega) (by omega)
  have hw2 : IntKind.i64.wrap (b.f2 - 2) = b.f2 - 2 := i64w (by omega) (by omega)
  have hbig : b.f2 ≤ 4096 := by omega
  have h25 : Evt (fun k => r16_Stocked.c25 k (i : Int) (if b.f2 ≥ 32 then b.f2 - 2 else sizeS b.f2 (oneV L i)) T L E R x w l bs b.f0 b.f1 b.f2) (layG w l E R T L (layB w l E R T L x b i) (i + 1) (bs.drop (i + 1))) := by
   refine Evt.step (fun k => ?_) h27
   rw [r16_Stocked.c25]
   by_cases h32 : b.f2 ≥ 32
   ·rw [if_pos (decide_eq_true h32), if_pos h32, one_eq k hL hLl i, Option.bind_some, hsz2 (by omega) (by omega) (by omega) (by omega)]
    unfold sizeS
    rw [if_neg (by omega), if_neg (by omega), if_neg (by omega)]
   ·rw [if_neg (by simpa using h32), if_neg h32]
  have h23 : Evt (fun k => r16_Stocked.c23 k (i : Int) (if b.f2 ≥ 16 then b.f2 - 2 else sizeS b.f2 (oneV L i)) T L E R x w l bs b.f0 b.f1 b.f2) (layG w l E R T L (layB w l E R T L x b i) (i + 1) (bs.drop (i + 1))) := by
   refine Evt.step (fun k => ?_) h25
   rw [r16_Stocked.c23]
   by_cases h16 : b.f2 = 16
   ·rw [if_pos (by simpa using h16), if_pos (by omega), if_neg (by omega), one_eq k hL hLl i, Option.bind_some, hsz2 (by omega) (by omega) (by omega) (by omega)]
    unfold sizeS
    rw [if_neg (by omega), if_neg (by omega), if_pos h16, h16]
    rfl
   ·rw [if_neg (by simpa using h16)]
    by_cases h32 : b.f2 ≥ 32
    ·rw [if_pos h32, if_pos (by omega)]
    ·rw [if_neg h32, if_neg (by rcases hsz with h | ⟨_, m, hm, h⟩ <;> omega)]
  have h21 : Evt (fun k => r16_Stocked.c21 k (i : Int) (if b.f2 ≥ 8 then b.f2 - 2 else sizeS b.f2 (oneV L i)) T L E R x w l bs b.f0 b.f1 b.f2) (layG w l E R T L (layB w l E R T L x b i) (i + 1) (bs.drop (i + 1))) := by
   refine Evt.step (fun k => ?_) h23
   rw [r16_Stocked.c21]
   by_cases h8 : b.f2 = 8
   ·rw [if_pos (by simpa using h8), if_pos (by omega), if_neg (by omega), one_eq k hL hLl i, Option.bind_some, hsz2 (by omega) (by omega) (by omega) (by omega)]
    unfold sizeS
    rw [if_neg (by omega), if_pos h8, h8]
    rfl
   ·rw [if_neg (by simpa using h8)]
    by_cases h32 : b.f2 ≥ 16
    ·rw [if_pos h32, if_pos (by omega)]
    ·rw [if_neg h32, if_neg (by rcases hsz with h | ⟨_, m, hm, h⟩ <;> omega)]
  refine Evt.step (fun k => ?_) h21
  rw [r16_Stocked.c15, if_pos (decide_eq_true (by omega)), if_pos (by omega), if_pos (by omega), if_pos (by omega), gd bs i _ hlt, hb']
  by_cases h4 : b.f2 = 4
  ·rw [if_pos (by simpa using h4), if_neg (by omega), one_eq k hL hLl i, Option.bind_some, hw2, hsz2 (by omega) (by omega) (by omega) (by omega)]
   unfold sizeS
   rw [if_pos h4, h4]
   rfl
  ·rw [if_neg (by simpa using h4), hw2, if_pos (by rcases hsz with h | ⟨_, m, hm, h⟩ <;> omega)]
def noLog (t : List Int) : List Int := t.filter fun n => Int.tmod n 6 != 5
theorem noLog_Q {t : List Int} (ht : ∀ x ∈ t, 0 ≤ x ∧ x ≤ 65535) : ∀ x ∈ noLog t, (numC x.toNat).f0 ≠ 4 := by
 intro x hx
 unfold noLog at hx
 rw [List.mem_filter] at hx
 have hr := ht x hx.1
 have h5 : ¬ Int.tmod x 6 = 5 := by simpa using hx.2
 rw [Int.tmod_eq_emod_of_nonneg hr.1] at h5
 have h5 : ¬ x.toNat % 6 = 5 := by omega
 unfold numC
 split
 ·show (1 : Int) ≠ 4; decide
 ·split
  ·show (2 : Int) ≠ 4; decide
  ·split
   ·show (1 : Int) ≠ 4; decide
   ·decide
structure StockArgs (a b : Int) (t T L : List Int) (E R : Int) (F : List Int) : Prop where
 ha : 0 ≤ a
 hb : 0 ≤ b
 ht : ∀ x ∈ t, 0 ≤ x ∧ x ≤ 65535
 tl : t.length ≤ 1048576
 hT : B8 T
 Tl : T.length ≤ 1048576
 hL : B8 L
 Ll : L.length ≤ 1048576
 hE : 0 ≤ E ∧ E < 4294967296
 hR : 0 ≤ R ∧ R ≤ 255
 hF : U64 F
 Fl : F.length ≤ 1048576
theorem geoW_rng (a b : Int) : Geo (geoW a b) (geoL a) ∧ chunksG (geoW a b) (geoL a) ≤ 8 ∧ geoW a b ≤ 1048576 ∧ 0 ≤ geoW a b := by
 have e := geoW_chunks a b
 refine ⟨?_, ?_, ?_, ?_⟩
 ·unfold Geo; rw [e]; unfold geoN; omega
 ·rw [e]; unfold geoN; omega
 ·unfold geoW geoL geoN; omega
 ·unfold geoW geoL geoN; omega
theorem blks_len (ds : List Chk) : (blks ds).length ≤ 65 * ds.length := by
 unfold blks H.blkAll
 rw [List.length_flatMap]
 have : ∀ (l : List (Chk × Nat)), (l.map fun p => (H.blkOne p.2 p.1).length).sum ≤ 65 * l.length := by
  intro l
  induction l with
  | nil => simp
  | cons p l ih =>
   have h1 : (H.blkOne p.2 p.1).length ≤ 65 := by
    unfold H.blkOne
    rw [List.length_append, List.length_map]
    have h2 : (H.huge p.2 p.1.f0 p.1.f3).length ≤ 1 := by unfold H.huge; split <;> simp
    have h3 : (H.onesI p.1.f4 (H.manyW p.1.f1)).length ≤ 64 := by
     unfold H.onesI H.ones
     rw [List.length_map]
     refine Nat.le_trans (List.length_filter_le _ _) ?_
     rw [List.length_range]
     have : (H.manyW p.1.f1) ≤ 64 := by unfold H.manyW; split <;> omega
     omega
    omega
   simp only [List.map_cons, List.sum_cons, List.length_cons]
   omega
 have h := this ds.zipIdx
 rwa [List.length_zipIdx] at h
theorem stocked_4 (a b : Int) (t T L : List Int) (E R : Int) (F : List Int) (h : StockArgs a b t T L E R F) {r : List Int}
  (hr : Evt (fun k => ((r15_Make.f k a b (noLog t) F [] 0 E []).bind fun y0 => ((r15_Geometry.f k a b (noLog t) F [] 0 E []).bind fun y1 => ((r05_Table.f k y1.fst y1.snd).bind fun y2 => ((r15_Part.f k y0 y2.fst y2.snd).bind fun y3 => ((r11_Blocks.f k y3).bind fun y4 => r16_Stocked.c15 k 0 T L E R y0 y1.fst y1.snd y4)))))) r) : ∀ (d i : Nat), t.length - i = d → i ≤ t.length →
  Evt (fun k => r16_Stocked.c4 k (i : Int) a b t T L E R F (noLog (t.take i))) r := by
 have htl := h.tl
 intro d
 induction d with
 | zero =>
  intro i hd hi
  obtain rfl : i = t.length := by omega
  rw [List.take_length]
  exact Evt.step (fun k => by rw [r16_Stocked.c4, if_neg (by simp), u64w h.hE.1 (by have := h.hE.2; omega)]) hr
 | succ d ih =>
  intro i hd hi
  have hlt : i < t.length := by omega
  have hn := ih (i + 1) (by omega) (by omega)
  have hlen : (noLog (t.take i)).length ≤ t.length := Nat.le_trans (List.length_filter_le _ _) (by rw [List.length_take]; omega)
  have h7 : Evt (fun k => r16_Stocked.c7 k (i : Int) a b t T L E R F (noLog (t.take (i + 1)))) r :=
   Evt.step (fun k => by rw [r16_Stocked.c7, i64w (by omega) (by omega)]; rfl) hn
  refine Evt.step (fun k => ?_) h7
  have e : noLog (t.take (i + 1)) = noLog (t.take i) ++ (if (Int.tmod t[i] 6 != 5) = true then [t[i]] else []) := by
   unfold noLog
   rw [List.take_succ_eq_append_getElem hlt, List.filter_append]
   congr 1
   show List.filter _ [t[i]] = _
   rw [List.filter_cons, List.filter_nil]
  rw [r16_Stocked.c4, if_pos (decide_eq_true (by omega)), if_pos (by omega), if_pos (by omega), gd t i 0 hlt, e]
  by_cases h5 : (Int.tmod t[i] 6 != 5) = true
  ·rw [if_pos h5, if_pos h5, if_pos (by omega), if_pos (by omega), if_pos (by rw [List.length_singleton]; exact big_le (by omega))]
  ·rw [if_neg h5, if_neg h5, List.append_nil]
theorem stocked_eq {a b : Int} {t T L : List Int} {E R : Int} {F : List Int} (h : StockArgs a b t T L E R F) :
  ∃ x ds, Pool0 x (geoL a) ds 0 E ∧ (x.length : Int) = geoW a b ∧ (∀ c ∈ ds, c.f0 ≠ 4) ∧ Evt (fun k => r16_Stocked.f k a b t T L E R F) (layG (geoW a b) (geoL a) E R T L x 0 (blks ds)) := by
 have hE := h.hE
 obtain ⟨hg, hn, hw, hw0⟩ := geoW_rng a b
 have hnl : (noLog t).length ≤ 1048576 := Nat.le_trans (List.length_filter_le _ _) h.tl
 obtain ⟨x, ds, hmk, hp, hx, hq⟩ := make_eq (fun c => c.f0 ≠ 4) (by decide) (by decide) a b h.ha h.hb (noLog t) F (noLog_Q h.ht) (fun y hy => h.ht y ((List.mem_filter.mp hy).1)) hnl h.hF h.Fl 0 E ⟨by decide, by decide⟩ ⟨by omega, by omega⟩
 have hdl : (ds.length : Int) = chunksG (geoW a b) (geoL a) := by
  have h1 := tabL_len x (geoL a) hp.geo
  rw [hp.tab, List.length_map, hx] at h1
  exact h1
 refine ⟨x, ds, hp, hx, hq, ?_⟩
 have h4 := stocked_4 a b t T L E R F h (r := layG (geoW a b) (geoL a) E R T L x 0 (blks ds)) ?_ t.length 0 (by omega) (by omega)
 ·exact Evt.congr h4 (fun k => by unfold r16_Stocked.f; rfl)
 ·refine Evt.bind hmk ?_
  refine Evt.bind (Evt.of fun k => geometry_eq k a b h.ha h.hb (noLog t) F [] 0 E []) ?_
  refine Evt.bind (Evt.at 2000 fun k => refTable_eq k _ _ hg) ?_
  have hpe : ∀ k, r15_Part.f k x (tabAt (geoL a)) (chunksG (geoW a b) (geoL a)) = some (ds.map encC) := fun k => by
   have := part_eq k x (geoL a) hp.geo
   rwa [hp.tab, hx] at this
  refine Evt.bind (Evt.of hpe) ?_
  have hbl := refBlocks_eq (ds.map encC) (by rw [List.length_map]; omega) (U64_enc ds hp.ds.ok)
  rw [chV_enc ds hp.ds.ok] at hbl
  refine Evt.bind hbl ?_
  have hb := blk_in ds (by omega) hp.ds.ok hp.ds.right
  rw [hdl] at hb
  have hlen := blks_len ds
  exact stocked_l T L h.hT h.hL h.Tl h.Ll _ _ E R h.hE h.hR hg (by omega) hw (blks ds) (by omega) hb (blks ds).length 0 x rfl (by omega) hx
end Go.Proofs.YtbbpcbjgekencaaGreatDoor.PS
end
section
set_option linter.unusedVariables false
set_option linter.unusedSimpArgs false
set_option linter.unusedVariables false
set_option linter.unusedSimpArgs false
namespace Go.Proofs.YtbbpcbjgekencaaGreatDoor.PS
open Go Go.Proofs.YtbbpcbjgekencaaGreatDoor.Q Go.Proofs.YtbbpcbjgekencaaGreatDoor.FT Go.Proofs.YtbbpcbjgekencaaGreatDoor.Ev
theorem layB_U64 {w l E R : Int} {T L x : List Int} {b : Blk} {i : Nat} (hx : U64 x) (h1 : Wd (hdW T L b i)) (h2 : Wd (serW E i)) (h3 : Wd (placeG w l b)) : U64 (layB w l E R T L x b i) := by
 unfold layB
 split
 ·exact U64_set (U64_set (U64_set hx _ _ h1) _ _ h2) _ _ h3
 ·exact U64_set (U64_set hx _ _ h1) _ _ h2
theorem layG_U64 (T L : List Int) (hT : B8 T) (hL : B8 L) (w l E R : Int) (hE : 0 ≤ E ∧ E < 4294967296) (hg : Geo w l) (hn : chunksG w l ≤ 128) (hw : 0 ≤ w ∧ w ≤ 1048576) : ∀ (bs : List Blk) (i : Nat) (x : List Int), (∀ b ∈ bs, BlkIn (chunksG w l) b ∧ SzOk b) → i + bs.length ≤ 1048576 → U64 x →
  U64 (layG w l E R T L x i bs) ∧ (layG w l E R T L x i bs).length = x.length
 | [], i, x, _, _, hx => ⟨hx, rfl⟩
 | b :: bs, i, x, hb, hi, hx => by
  obtain ⟨hbi, hsz⟩ := hb b List.mem_cons_self
  have hs := sizeS_rng hsz hn hbi (oneV_rng hL i)
  have hty := oneV_rng hT i
  rw [List.length_cons] at hi
  obtain ⟨W, rfl⟩ : ∃ W : Nat, w = (W : Int) := ⟨w.toNat, by omega⟩
  have hf := place_fit (x := List.replicate W (0 : Int)) (l := l) (b := b) (by rw [List.length_replicate]; exact hg) (by rw [List.length_replicate]; exact hbi)
  rw [List.length_replicate] at hf
  have hw4 := hbi.w0
  obtain ⟨r1, r2⟩ := layG_U64 T L hT hL (W : Int) l E R hE hg hn hw bs (i + 1) (layB (W : Int) l E R T L x b i) (fun b hb' => hb b (List.mem_cons_of_mem _ hb')) (by omega) (layB_U64 hx (by unfold hdW; exact ⟨by omega, by omega⟩) (by unfold serW; exact ⟨by omega, by omega⟩) ⟨by omega, by omega⟩)
  exact ⟨r1, r2.trans (layB_len ..)⟩
theorem blks_ok {x : List Int} {l root E : Int} {ds : List Chk} (hp : Pool0 x l ds root E) (hlen : x.length ≤ 1048576) : (ds.length : Int) = chunksG (x.length : Int) l ∧ ∀ b ∈ blks ds, BlkIn (chunksG (x.length : Int) l) b ∧ SzOk b := by
 have h1 := tabL_len x l hp.geo
 rw [hp.tab, List.length_map] at h1
 have hl := hp.geo.l
 refine ⟨h1, ?_⟩
 rw [← h1]
 exact blk_in ds (by omega) hp.ds.ok hp.ds.right
abbrev Spl := S35
end Go.Proofs.YtbbpcbjgekencaaGreatDoor.PS
end
