import Derived.Test.YtbbpcbjgekencaaGreatDoorM13
import Derived.ChangeSame
import Derived.ChangeVars
import Derived.Deep.Fields
import Derived.Deep.Slices
import Derived.JoinedOf
import Derived.LaidLaws
import Derived.SizedLaws
import Derived.Test.YtbbpcbjgekencaaGreatDoorRows
import Derived.WideShapes
section
set_option linter.unusedVariables false
set_option linter.unusedSimpArgs false
set_option linter.unusedVariables false
set_option linter.unusedSimpArgs false
namespace Go.Proofs.YtbbpcbjgekencaaGreatDoor.PS
open Go Go.Proofs.YtbbpcbjgekencaaGreatDoor.Q Go.Proofs.YtbbpcbjgekencaaGreatDoor.FT Go.Proofs.YtbbpcbjgekencaaGreatDoor.Ev
section
variable {w l E R : Int} {T L : List Int}
theorem layB_at {x : List Int} {b : Blk} {i j : Nat} (h8 : j ≠ 8) (h0 : j ≠ (placeG w l b).toNat) (h1 : j ≠ (placeG w l b + 1).toNat) : (layB w l E R T L x b i)[j]? = x[j]? := by
 unfold layB
 split
 ·rw [List.getElem?_set_ne (Ne.symm h8), List.getElem?_set_ne (Ne.symm h1), List.getElem?_set_ne (Ne.symm h0)]
 ·rw [List.getElem?_set_ne (Ne.symm h1), List.getElem?_set_ne (Ne.symm h0)]
theorem layG_at {j : Nat} (h8 : j ≠ 8) : ∀ (bs : List Blk) (i : Nat) (x : List Int), (∀ b ∈ bs, j ≠ (placeG w l b).toNat ∧ j ≠ (placeG w l b + 1).toNat) → (layG w l E R T L x i bs)[j]? = x[j]?
 | [], _, _, _ => rfl
 | b :: bs, i, x, h => by
  rw [layG, layG_at h8 bs (i + 1) _ (fun d hd => h d (List.mem_cons_of_mem _ hd))]
  exact layB_at h8 (h b List.mem_cons_self).1 (h b List.mem_cons_self).2
theorem layB_hd {x : List Int} {b : Blk} {i : Nat} (hp : 9 ≤ placeG w l b) (hx : placeG w l b + 1 < x.length) :
  (layB w l E R T L x b i)[(placeG w l b).toNat]? = some (hdW T L b i) ∧ (layB w l E R T L x b i)[(placeG w l b + 1).toNat]? = some (serW E i) := by
 have h1 : (placeG w l b + 1).toNat ≠ (placeG w l b).toNat := by omega
 unfold layB
 split
 ·rw [List.getElem?_set_ne (by omega), List.getElem?_set_ne h1, List.getElem?_set_self (by omega), List.getElem?_set_ne (by omega), List.getElem?_set_self (by rw [List.length_set]; omega)]
  exact ⟨rfl, rfl⟩
 ·rw [List.getElem?_set_ne h1, List.getElem?_set_self (by omega), List.getElem?_set_self (by rw [List.length_set]; omega)]
  exact ⟨rfl, rfl⟩
theorem layG_hd : ∀ (bs : List Blk) (i : Nat) (x : List Int), (∀ b ∈ bs, 9 ≤ placeG w l b ∧ placeG w l b + 1 < x.length ∧ 4 ≤ b.f2) → (bs.Pairwise fun b d => hi b ≤ lo d) → ∀ (n : Nat) (h : n < bs.length),
  (layG w l E R T L x i bs)[(placeG w l bs[n]).toNat]? = some (hdW T L bs[n] (i + n)) ∧ (layG w l E R T L x i bs)[(placeG w l bs[n] + 1).toNat]? = some (serW E (i + n))
 | [], _, _, _, _, n, h => by simp at h
 | b :: bs, i, x, hb, hpw, n, h => by
  have hb0 := hb b List.mem_cons_self
  obtain ⟨hpw1, hpw2⟩ := List.pairwise_cons.mp hpw
  rw [layG]
  cases n with
  | zero =>
   simp only [List.getElem_cons_zero, Nat.add_zero]
   have hfar : ∀ d ∈ bs, placeG w l b + 4 ≤ placeG w l d := fun d hd => by
    have := hpw1 d hd
    rw [place_lo, place_lo]
    unfold hi at this
    omega
   rw [layG_at (by omega) bs (i + 1) _ (fun d hd => by have := hfar d hd; omega), layG_at (by omega) bs (i + 1) _ (fun d hd => by have := hfar d hd; omega)]
   exact layB_hd hb0.1 hb0.2.1
  | succ n =>
   have := layG_hd bs (i + 1) (layB w l E R T L x b i) (fun d hd => by rw [layB_len]; exact hb d (List.mem_cons_of_mem _ hd)) hpw2 n (by simpa using h)
   simp only [List.getElem_cons_succ]
   rw [show i + 1 + n = i + (n + 1) by omega] at this
   exact this
theorem layG_8 : ∀ (bs : List Blk) (i : Nat) (x : List Int), (∀ b ∈ bs, 9 ≤ placeG w l b) → 8 < x.length → (layG w l E R T L x i bs)[8]? = if h : (i : Int) < R ∧ R ≤ i + bs.length then some (placeG w l (bs[(R - i - 1).toNat]'(by omega))) else x[8]?
 | [], i, x, _, _ => by
  rw [dif_neg (by simp only [List.length_nil]; omega)]
  rfl
 | b :: bs, i, x, hb, hx => by
  have hb0 := hb b List.mem_cons_self
  have hn := layG_8 bs (i + 1) (layB w l E R T L x b i) (fun d hd => hb d (List.mem_cons_of_mem _ hd)) (by rw [layB_len]; exact hx)
  rw [layG, hn]
  by_cases h1 : ((i + 1 : Nat) : Int) < R ∧ R ≤ (i + 1 : Nat) + bs.length
  ·have h2 : (i : Int) < R ∧ R ≤ i + (b :: bs).length := by rw [List.length_cons]; omega
   rw [dif_pos h1, dif_pos h2]
   congr 2
   have : (R - i - 1).toNat = (R - (i + 1 : Nat) - 1).toNat + 1 := by omega
   simp only [this, List.getElem_cons_succ]
  ·rw [dif_neg h1]
   by_cases h2 : R = (i : Int) + 1
   ·have h3 : (i : Int) < R ∧ R ≤ i + (b :: bs).length := by rw [List.length_cons]; omega
    rw [dif_pos h3]
    have h0 : (R - i - 1).toNat = 0 := by omega
    simp only [h0, List.getElem_cons_zero]
    unfold layB
    rw [if_pos h2, List.getElem?_set_self (by simpa using hx)]
   ·rw [dif_neg (by rw [List.length_cons]; omega)]
    unfold layB
    rw [if_neg h2, List.getElem?_set_ne (by omega), List.getElem?_set_ne (by omega)]
end
structure Plt (y : List Int) (l : Int) (ds : List Chk) : Prop where
 geo : Geo (y.length : Int) l
 u : U64 y
 head : y.take 8 = H.headL (y.length : Int) l (chunksG (y.length : Int) l)
 marks : ∀ i : Nat, (i : Int) < l → wd y (10 + (i : Int)) = 0
 zeros : ∀ j : Nat, 10 ≤ j → (j : Int) < tabAt l → wd y (j : Int) = 0
 tab : tabL y l = ds.map encC
 tbl : Tabl ds
 len : (ds.length : Int) = chunksG (y.length : Int) l
 few : ds.length ≤ 8
 logs : ∀ c ∈ ds, c.f0 ≠ 4
structure Stk (y : List Int) (l : Int) (ds : List Chk) (T L : List Int) (E R : Int) : Prop extends Plt y l ds where
 epoch : wd y 9 = E
 hd : ∀ (i : Nat) (h : i < (blks ds).length), hdV y l (blks ds)[i] = (1 + oneV T i, sizeS (blks ds)[i].f2 (oneV L i), serW E i, true)
 root : wd y 8 = if h : 0 < R ∧ R ≤ (blks ds).length then placeG (y.length : Int) l ((blks ds)[(R - 1).toNat]'(by omega)) else 0
theorem headT_of {t s q : Int} (ht : 1 ≤ t ∧ t ≤ 65535) (hs : 0 ≤ s ∧ s ≤ 4096) (hq : 1 ≤ q) : headT (18038886832455811072 + 65536 * s + t) q = (t, s, q, true) := by
 have e1 : (18038886832455811072 + 65536 * s + t) % 65536 = t := by omega
 have e2 : (18038886832455811072 + 65536 * s + t) / 65536 % 65536 = s := by omega
 have e3 : (18038886832455811072 + 65536 * s + t) / 4294967296 = 4200005632 := by omega
 unfold headT
 rw [e1, e2, e3, if_pos ⟨decide_eq_true (by omega), rfl⟩]
theorem heap9 {w l : Int} (h : Geo w l) : 10 + 73 * l + chunksG w l = heapAt w l := by unfold heapAt; omega
theorem wd_eq {x y : List Int} {a : Int} (h : x[a.toNat]? = y[a.toNat]?) : wd x a = wd y a := by
 unfold wd
 rw [List.getD_eq_getElem?_getD, List.getD_eq_getElem?_getD, h]
theorem stocked_stk {a b : Int} {t T L : List Int} {E R : Int} {F : List Int} (h : StockArgs a b t T L E R F) :
  ∃ y ds, Stk y (geoL a) ds T L E R ∧ (y.length : Int) = geoW a b ∧ Evt (fun k => r16_Stocked.f k a b t T L E R F) y := by
 obtain ⟨x, ds, hp, hx, hlog, he⟩ := stocked_eq h
 obtain ⟨hg, hn, hw, hw0⟩ := geoW_rng a b
 obtain ⟨hdl, hb⟩ := blks_ok hp (by omega)
 have hbl := blks_len ds
 have hE := h.hE
 have hdl' := hdl
 rw [hx] at hdl hb
 obtain ⟨r1, r2⟩ := layG_U64 T L h.hT h.hL _ _ E R h.hE hg (by omega) ⟨hw0, hw⟩ (blks ds) 0 x hb (by omega) hp.u
 have hl1 := hg.l
 have hhp := heap9 hg
 have hpl : ∀ d ∈ blks ds, heapAt (geoW a b) (geoL a) ≤ placeG (geoW a b) (geoL a) d ∧ placeG (geoW a b) (geoL a) d + 1 < x.length ∧ 4 ≤ d.f2 := fun d hd => by
  have hbi := (hb d hd).1
  have hf := place_fit (x := x) (l := geoL a) (b := d) (by rw [hx]; exact hg) (by rw [hx]; exact hbi)
  rw [hx] at hf
  have h4 := hbi.w0
  have hm := hbi.mul
  have hc := hbi.c0
  refine ⟨by unfold placeG; omega, by omega, h4⟩
 have hpw := blks_apart ds hp.ds.ok hp.ds.right
 have hlow : ∀ j : Nat, j ≠ 8 → (j : Int) < heapAt (geoW a b) (geoL a) → (layG (geoW a b) (geoL a) E R T L x 0 (blks ds))[j]? = x[j]? := fun j h8 hj => layG_at h8 _ _ _ (fun d hd => by have := (hpl d hd).1; omega)
 have hhd := layG_hd (w := geoW a b) (l := geoL a) (E := E) (R := R) (T := T) (L := L) (blks ds) 0 x (fun d hd => ⟨by have := (hpl d hd).1; omega, (hpl d hd).2⟩) hpw
 have h8 := layG_8 (w := geoW a b) (l := geoL a) (E := E) (R := R) (T := T) (L := L) (blks ds) 0 x (fun d hd => by have := (hpl d hd).1; omega) (by omega)
 generalize layG (geoW a b) (geoL a) E R T L x 0 (blks ds) = y at he r1 r2 hlow hhd h8
 have hy : (y.length : Int) = geoW a b := by rw [r2]; exact hx
 have htab : tabAt (geoL a) + chunksG (geoW a b) (geoL a) = heapAt (geoW a b) (geoL a) := by unfold heapAt tabAt; omega
 have ht10 : 10 ≤ tabAt (geoL a) := by unfold tabAt; omega
 refine ⟨y, ds, ⟨⟨by rw [hy]; exact hg, r1, ?_, ?_, fun j j1 j2 => ?_, ?_, hp.ds, by rw [hy]; exact hdl, by omega, hlog⟩, ?_, ?_, ?_⟩, hy, he⟩
 ·have e : y.take 8 = x.take 8 := by
   apply List.ext_getElem?
   intro j
   rw [List.getElem?_take, List.getElem?_take]
   split
   ·exact hlow j (by omega) (by omega)
   ·rfl
  rw [e, hp.head, r2]
 ·intro i hi
  rw [← hp.marks i hi]
  exact wd_eq (hlow _ (by omega) (by omega))
 ·rw [← hp.zeros j j1 j2]
  exact wd_eq (hlow _ (by omega) (by rw [Int.toNat_natCast]; omega))
 ·rw [← hp.tab]
  unfold tabL
  rw [r2, hx]
  apply List.ext_getElem?
  intro j
  rw [List.getElem?_drop, List.getElem?_take, List.getElem?_drop, List.getElem?_take]
  split
  ·exact hlow _ (by omega) (by omega)
  ·rfl
 ·rw [← hp.epoch]
  exact wd_eq (hlow 9 (by omega) (by omega))
 ·intro i hi
  have hbi := hb _ (List.getElem_mem hi)
  have ho := oneV_rng h.hL i
  have hty := oneV_rng h.hT i
  have hs := sizeS_rng hbi.2 (n := chunksG (geoW a b) (geoL a)) (by omega) hbi.1 ho
  obtain ⟨q1, q2⟩ := hhd i hi
  rw [Nat.zero_add] at q1 q2
  have w1 : wd y (placeG (y.length : Int) (geoL a) (blks ds)[i]) = hdW T L (blks ds)[i] i := by unfold wd; rw [hy, List.getD_eq_getElem?_getD, q1]; rfl
  have w2 : wd y (placeG (y.length : Int) (geoL a) (blks ds)[i] + 1) = serW E i := by unfold wd; rw [hy, List.getD_eq_getElem?_getD, q2]; rfl
  unfold hdV
  rw [w1, w2]
  unfold hdW
  rw [headT_of (by omega) ⟨hs.1, hs.2.2.1⟩ (by unfold serW; omega)]
  unfold mkH
  simp only [Bool.true_and, hs.2.2.2, beq_self_eq_true]
 ·have h80 : x[8]? = some 0 := by
   have h8l : 8 < x.length := by omega
   have := hp.root
   unfold wd at this
   rw [List.getD_eq_getElem?_getD, show (8 : Int).toNat = 8 from rfl, List.getElem?_eq_getElem h8l] at this
   rw [List.getElem?_eq_getElem h8l]
   exact congrArg some this
  unfold wd
  rw [List.getD_eq_getElem?_getD, show (8 : Int).toNat = 8 from rfl, h8, h80]
  simp only [Int.natCast_zero, Int.zero_add, Int.sub_zero, hy]
  split <;> rfl
section
variable {y : List Int} {l E R : Int} {ds : List Chk} {T L : List Int}
theorem Plt.heap (h : Plt y l ds) : 10 + 73 * l + chunksG (y.length : Int) l = heapAt (y.length : Int) l ∧ 1 ≤ l ∧ 1 ≤ chunksG (y.length : Int) l ∧ heapAt (y.length : Int) l + 32 * chunksG (y.length : Int) l ≤ y.length := by
 have h1 := h.geo.l
 have h2 : 1 ≤ chunksG (y.length : Int) l := h.geo
 have h3 := heap9 h.geo
 omega
theorem objV_nodup {x : List Int} {l : Int} : ∀ {bs : List Blk} {S : List Int}, objV x l S bs = true → (bs.map (serV x l)).Nodup ∧ (∀ b ∈ bs, serV x l b ∉ S)
 | [], S, _ => ⟨List.nodup_nil, fun b hb => by cases hb⟩
 | b :: bs, S, h => by
  rw [objV] at h
  simp only [Bool.and_eq_true, Bool.not_eq_true'] at h
  obtain ⟨i1, i2⟩ := objV_nodup h.2.2.2
  rw [List.map_cons, List.nodup_cons]
  refine ⟨⟨fun hm => ?_, i1⟩, fun d hd => ?_⟩
  ·rw [List.mem_map] at hm
   obtain ⟨d, hd, e⟩ := hm
   exact i2 d hd (List.mem_append.mpr (.inr (by rw [e]; exact List.mem_singleton.mpr rfl)))
  ·rcases List.mem_cons.mp hd with rfl | hd
   ·intro hm
    rw [← List.contains_iff_mem, h.2.1] at hm
    cases hm
   ·exact fun hm => i2 d hd (List.mem_append.mpr (.inl hm))
theorem wd_getElem {y : List Int} {a : Int} (h0 : 0 ≤ a) (h : a < y.length) : y[a.toNat]? = some (wd y a) := by
 unfold wd
 rw [List.getD_eq_getElem?_getD, List.getElem?_eq_getElem (by omega)]
 rfl
end
end Go.Proofs.YtbbpcbjgekencaaGreatDoor.PS
end
section
set_option linter.unusedVariables false
set_option linter.unusedSimpArgs false
set_option linter.unusedVariables false
set_option linter.unusedSimpArgs false
namespace Go.Proofs.YtbbpcbjgekencaaGreatDoor.PS
open Go Go.Proofs.YtbbpcbjgekencaaGreatDoor.Q Go.Proofs.YtbbpcbjgekencaaGreatDoor.FT Go.Proofs.YtbbpcbjgekencaaGreatDoor.Ev
def Few4 (t T L F : List Int) : Prop := t.length ≤ 20 ∧ T.length ≤ 40 ∧ L.length ≤ 40 ∧ F.length ≤ 40
theorem few_yes (k : Nat) (a b : Int) (t T L : List Int) (E R : Int) (F : List Int) (hf : Few4 t T L F) : r16_Few.f k a b t T L E R F = some true := by
 obtain ⟨h1, h2, h3, h4⟩ := hf
 unfold r16_Few.f
 rw [if_pos (decide_eq_true (by omega)), if_pos (decide_eq_true (by omega)), if_pos (decide_eq_true (by omega)), decide_eq_true (by omega)]
theorem few_no (k : Nat) (a b : Int) (t T L : List Int) (E R : Int) (F : List Int) (hf : ¬ Few4 t T L F) : r16_Few.f k a b t T L E R F = some false := by
 unfold Few4 at hf
 unfold r16_Few.f
 by_cases h1 : t.length ≤ 20
 ·rw [if_pos (decide_eq_true (by omega))]
  by_cases h2 : T.length ≤ 40
  ·rw [if_pos (decide_eq_true (by omega))]
   by_cases h3 : L.length ≤ 40
   ·rw [if_pos (decide_eq_true (by omega)), decide_eq_false (by omega)]
   ·rw [if_neg (by rw [decide_eq_true_eq]; omega)]
  ·rw [if_neg (by rw [decide_eq_true_eq]; omega)]
 ·rw [if_neg (by rw [decide_eq_true_eq]; omega)]
structure StockRng (a b : Int) (t T L : List Int) (E R : Int) (F : List Int) : Prop where
 ha : 0 ≤ a
 hb : 0 ≤ b
 ht : ∀ x ∈ t, 0 ≤ x ∧ x ≤ 65535
 hT : B8 T
 hL : B8 L
 hE : 0 ≤ E ∧ E < 4294967296
 hR : 0 ≤ R ∧ R ≤ 255
 hF : U64 F
theorem StockRng.args {a b : Int} {t T L : List Int} {E R : Int} {F : List Int} (h : StockRng a b t T L E R F) (hf : Few4 t T L F) : StockArgs a b t T L E R F := by
 obtain ⟨h1, h2, h3, h4⟩ := hf
 exact ⟨h.ha, h.hb, h.ht, by omega, h.hT, by omega, h.hL, by omega, h.hE, h.hR, h.hF, by omega⟩
end Go.Proofs.YtbbpcbjgekencaaGreatDoor.PS
end
section
set_option linter.unusedVariables false
set_option linter.unusedSimpArgs false
set_option linter.unusedVariables false
set_option linter.unusedSimpArgs false
namespace Go.Proofs.YtbbpcbjgekencaaGreatDoor.PS
open Go Go.Proofs.YtbbpcbjgekencaaGreatDoor.Q Go.Proofs.YtbbpcbjgekencaaGreatDoor.FT Go.Proofs.YtbbpcbjgekencaaGreatDoor.Ev
theorem pigeon : ∀ (D S : List Nat), D.Nodup → (∀ d ∈ D, d ∈ S) → D.length ≤ S.length
 | [], _, _, _ => Nat.zero_le _
 | d :: D, S, hn, h => by
  have hd := h d List.mem_cons_self
  obtain ⟨h1, h2⟩ := List.nodup_cons.mp hn
  have := pigeon D (S.erase d) h2 (fun x hx => (List.mem_erase_of_ne (fun e => h1 (by rw [← e]; exact hx))).mpr (h x (List.mem_cons_of_mem _ hx)))
  rw [List.length_erase_of_mem hd] at this
  have := List.length_pos_of_mem hd
  rw [List.length_cons]
  omega
theorem crc_ne : ∀ l : Fin 4, ∀ m : Fin 4, ∀ n : Fin 9, 1 ≤ m.val → m.val < l.val → 1 ≤ n.val → H.sealL (H.l7 (10 + 73 * (l.val : Int) + 33 * (n.val : Int)) (l.val : Int) (n.val : Int)) ≠ H.sealL (H.l7 (10 + 73 * (l.val : Int) + 33 * (n.val : Int)) (m.val : Int) ((73 * ((l.val : Int) - (m.val : Int)) + 33 * (n.val : Int)) / 33)) := by decide +kernel
section
variable {x y : List Int} {l E R : Int} {ds : List Chk} {T L : List Int}
structure ApartL (n e0 : Int) (os : List Obj) : Prop where
 first : ∀ h : 0 < os.length, e0 ≤ os[0].f0.f0
 next : ∀ (i : Nat) (h : i + 1 < os.length), os[i].f0.f0 + 2 + os[i].f1.length ≤ os[i + 1].f0.f0
 ok : ∀ o ∈ os, 0 ≤ o.f0.f0 ∧ o.f0.f0 + 2 + o.f1.length ≤ n ∧ 1 ≤ o.f0.f1 ∧ o.f0.f1 ≤ 65535 ∧ 1 ≤ o.f0.f2
 ser : (os.map fun o => o.f0.f2).Nodup
theorem apart28 {n e0 : Int} {os : List Obj} (h : ApartL n e0 os) (hl : os.length ≤ 1048576) (e : Int) (i : Nat) (hi : i < os.length) {r : Bool} (hn : Evt (fun k => l16_SoundApart.c18 k true e ((i + 1 : Nat) : Int) x os) r) : ∀ (d j : Nat), i - j = d → j ≤ i →
  Evt (fun k => l16_SoundApart.c28 k true e (i : Int) (j : Int) x os os[i].f0.f2) r := by
 intro d
 induction d with
 | zero =>
  intro j hd hj
  obtain rfl : j = i := by omega
  exact Evt.step (fun k => by rw [l16_SoundApart.c28, if_neg (by simp), i64w (by omega) (by omega)]; rfl) hn
 | succ d ih =>
  intro j hd hj
  have hlt : j < os.length := by omega
  have hne : os[j].f0.f2 ≠ os[i].f0.f2 := by
   have := List.pairwise_iff_getElem.mp h.ser j i (by simpa using hlt) (by simpa using hi) (by omega)
   simpa using this
  refine Evt.step (fun k => ?_) (ih (j + 1) (by omega) (by omega))
  rw [l16_SoundApart.c28, if_pos (decide_eq_true (by omega)), if_pos (by omega), if_pos (by omega), if_pos (by omega), gd os j _ hlt, if_neg (by simpa using hne), i64w (x := (j : Int) + 1) (by omega) (by omega)]
  rfl
theorem apart18 {e0 : Int} {os : List Obj} (hx : x.length ≤ 1048576) (h : ApartL (x.length : Int) e0 os) (hl : os.length ≤ 1048576) (hend : ∀ e, Evt (fun k => l16_SoundApart.c18 k true e (os.length : Int) x os) true) : ∀ (d i : Nat) (e : Int), os.length - i = d → i ≤ os.length → (∀ hi : i < os.length, e ≤ os[i].f0.f0) →
  Evt (fun k => l16_SoundApart.c18 k true e (i : Int) x os) true := by
 intro d
 induction d with
 | zero =>
  intro i e hd hi _
  obtain rfl : i = os.length := by omega
  exact hend e
 | succ d ih =>
  intro i e hd hi he
  have hlt : i < os.length := by omega
  have ho := h.ok _ (List.getElem_mem hlt)
  have he := he hlt
  have hn := ih (i + 1) (os[i].f0.f0 + 2 + os[i].f1.length) (by omega) (by omega) (fun hi => h.next i hi)
  refine Evt.step (fun k => ?_) (apart28 h hl _ i hlt hn i 0 (by omega) (by omega))
  rw [l16_SoundApart.c18, if_pos (decide_eq_true (by omega)), if_pos (by omega), if_pos (by omega), if_pos (by omega), gd os i _ hlt]
  rw [i64w (x := os[i].f0.f0 + 2) (by omega) (by omega), i64w (x := os[i].f0.f0 + 2 + (os[i].f1.length : Int)) (by omega) (by omega)]
  rw [if_pos (decide_eq_false (by omega)), if_pos (decide_eq_false (by omega)), if_pos (decide_eq_false (by omega)), if_pos (decide_eq_false (by omega)), if_neg (by rw [beq_iff_eq]; omega)]
  rfl
theorem heapAt_mono {w l m : Int} (h1 : Geo w l) (h2 : Geo w m) (h : l ≤ m) : heapAt w l ≤ heapAt w m := by
 have a1 := h1.l
 have a2 := h2.l
 unfold heapAt chunksG
 rw [if_pos (by omega), if_pos (by omega)]
 omega
theorem headT_sign (a b : Int) (h : (headT a b).2.2.2 = true) : a / 4294967296 = 4200005632 := by
 unfold headT at h
 split at h
 ·rename_i hc; exact hc.2
 ·cases h
theorem blk_chunk (cs : List Chk) (hok : ∀ c ∈ cs, OkC c) : ∀ b ∈ blks cs, ∃ (i : Nat) (h : i < cs.length), b.f0 = (i : Int) ∧ (cs[i].f0 = 1 ∨ cs[i].f0 = 2) := by
 intro b hb
 unfold blks H.blkAll at hb
 rw [List.mem_flatMap] at hb
 obtain ⟨⟨c, i⟩, hp, hb⟩ := hb
 have hp := List.mk_mem_zipIdx_iff_getElem?.mp hp
 obtain ⟨hi, rfl⟩ := List.getElem?_eq_some_iff.mp hp
 have hc := hok _ (List.getElem_mem hi)
 refine ⟨i, hi, ?_, ?_⟩
 ·unfold H.blkOne at hb
  rcases List.mem_append.mp hb with hb | hb
  ·unfold H.huge at hb
   split at hb
   ·rw [List.mem_singleton] at hb; rw [hb]
   ·cases hb
  ·rw [List.mem_map] at hb
   obtain ⟨j, _, rfl⟩ := hb
   rfl
 ·refine Classical.byContradiction fun hn => ?_
  rw [one_none i hc (fun e => hn (.inl e)) (fun e => hn (.inr e))] at hb
  cases hb
theorem blk_word (hx : U64 x) (hg : Geo (x.length : Int) l) (hlen : x.length ≤ 1048576) (ht : tilesV x l = true) : ∀ b ∈ bsV x l, ∃ i : Int, 0 ≤ i ∧ i < chunksG (x.length : Int) l ∧ wd x (tabAt l + i) ≠ 0 := by
 intro b hb
 obtain ⟨i, hi, _, hk⟩ := blk_chunk _ (chV_ok _ (tabL_U64 x l hx)) b hb
 have hle := chV_len (tabL x l)
 have htl := tabL_len x l hg
 have hl := hg.l
 refine ⟨i, by omega, by omega, fun h0 => ?_⟩
 have hall : (tabL x l).all decOk = true := by
  refine Classical.byContradiction fun hn => ?_
  have e : (chV (tabL x l)).2 = [] := by unfold chV; rw [if_neg hn]
  rw [e] at hi
  simp at hi
 have e : (chV (tabL x l)).2 = (tabL x l).map decC := by unfold chV; rw [if_pos hall]
 have hi2 : i < (tabL x l).length := by rw [e, List.length_map] at hi; exact hi
 have hw : (tabL x l)[i]? = x[(tabAt l + i).toNat]? := by
  have : 0 ≤ tabAt l := by unfold tabAt; omega
  unfold tabL
  rw [List.getElem?_drop, List.getElem?_take, if_pos (by omega)]
  congr 1
  omega
 have htp : 10 ≤ tabAt l := by unfold tabAt; omega
 rw [wd_getElem (by omega) (by unfold tabAt; omega), h0] at hw
 have hc2 : (chV (tabL x l)).2[i]? = some (decC 0) := by rw [e, List.getElem?_map, hw]; rfl
 rw [List.getElem?_eq_getElem hi] at hc2
 rw [Option.some.inj hc2] at hk
 revert hk
 decide
theorem apartL_of (h : Stk y l ds T L E R) (hl3 : l ≤ 3) (hW : (y.length : Int) = 10 + 73 * l + 33 * ds.length) (hx : U64 x) (hxl : x.length = y.length) (S : List Nat) (hS : S.length ≤ 4) (hxy : ∀ j, j ∉ S → x[j]? = y[j]?) (hs : soundV x = true) :
  ApartL (x.length : Int) (heapAt (y.length : Int) l) (objsL x) := by
 obtain ⟨hg, ht, hok⟩ := sound_parts hs
 have hh := h.heap
 have hlx := hg.l
 have hxl' : x.length ≤ 1048576 := by omega
 have hcx : 1 ≤ chunksG (x.length : Int) (lanesOf x) := hg
 have hfew := h.few
 have hlen := h.len
 have hin := bs_in hx hg (by omega) ht
 have hhead : HeadOk x (lanesOf x) := by unfold soundV at hs; simp only [Bool.and_eq_true, decide_eq_true_eq] at hs; exact hs.1
 have hobjs : objsV x (lanesOf x) = true := by unfold soundV restV at hs; simp only [Bool.and_eq_true] at hs; exact hs.2.2.2.1
 have hright : rightV (tabL x (lanesOf x)) = true := by unfold tilesV at ht; simp only [Bool.and_eq_true] at ht; exact ht.1
 have hpw : (bsV x (lanesOf x)).Pairwise fun b d => hi b ≤ lo d := by
  unfold rightV at hright
  simp only [Bool.and_eq_true] at hright
  exact blks_apart _ (chV_ok _ (tabL_U64 x _ hx)) hright.2
 have hnod : ((bsV x (lanesOf x)).map (serV x (lanesOf x))).Nodup := by
  unfold objsV at hobjs
  simp only [Bool.and_eq_true] at hobjs
  exact (objV_nodup hobjs.1).1
 have hob : objsL x = (bsV x (lanesOf x)).map (objOf x (lanesOf x)) := by unfold objsL; rw [if_pos hs]
 -- what an object is
 have hfull : ∀ b ∈ bsV x (lanesOf x), heapAt (x.length : Int) (lanesOf x) ≤ placeG (x.length : Int) (lanesOf x) b ∧ ((objOf x (lanesOf x) b).f1.length : Int) = (hdV x (lanesOf x) b).2.1 ∧ (hdV x (lanesOf x) b).2.1 + 2 ≤ b.f2 ∧ placeG (x.length : Int) (lanesOf x) b + b.f2 ≤ x.length ∧ 0 ≤ (hdV x (lanesOf x) b).2.1 ∧ 1 ≤ (objOf x (lanesOf x) b).f0.f1 ∧ (objOf x (lanesOf x) b).f0.f1 ≤ 65535 ∧ 1 ≤ (objOf x (lanesOf x) b).f0.f2 := fun b hb => by
  have hbi := (hin b hb).1
  have hf := place_fit hg hbi
  have hsz := hd_size b (hok b hb)
  have hm := hbi.mul
  have hc := hbi.c0
  have hv := hok b hb
  unfold hdV mkH at hv
  simp only [Bool.and_eq_true] at hv
  have hz := headT_size _ _ hv.1
  refine ⟨by unfold placeG; omega, ?_, hsz.2.1, hf.2, hsz.1, hz.2.2.1, hz.2.2.2.1, hz.2.2.2.2.1⟩
  show ((dataAt x (placeG (x.length : Int) (lanesOf x) b) (hdV x (lanesOf x) b).2.1).length : Int) = _
  unfold dataAt
  rw [List.length_take, List.length_drop]
  omega
 -- the heap begins there, or beyond
 have hheap : ∀ b ∈ bsV x (lanesOf x), heapAt (y.length : Int) l ≤ placeG (x.length : Int) (lanesOf x) b := fun b hb => by
  have hb1 := (hfull b hb).1
  by_cases hle : l ≤ lanesOf x
  ·have := heapAt_mono (w := (x.length : Int)) (by rw [hxl]; exact h.geo) hg hle
   rw [hxl] at this hb1 ⊢
   omega
  ·refine Classical.byContradiction fun hlow => ?_
   -- five words are others
   have hx8 := hhead.2
   have hy8 := h.head
   have hx8l : 8 ≤ x.length := hhead.len
   have hxw : ∀ j : Nat, j < 8 → x[j]? = (H.headL (x.length : Int) (lanesOf x) (chunksG (x.length : Int) (lanesOf x)))[j]? := fun j hj => by rw [← hx8, List.getElem?_take, if_pos hj]
   have hyw : ∀ j : Nat, j < 8 → y[j]? = (H.headL (y.length : Int) l (chunksG (y.length : Int) l))[j]? := fun j hj => by rw [← hy8, List.getElem?_take, if_pos hj]
   have hchx : chunksG (x.length : Int) (lanesOf x) = (73 * (l - lanesOf x) + 33 * ds.length) / 33 := by
    unfold chunksG
    rw [hxl, if_pos (by rw [← hxl]; omega)]
    omega
   have n3 : 3 ∈ S := Classical.byContradiction fun hn => by
    have := hxy 3 hn
    rw [hxw 3 (by omega), hyw 3 (by omega)] at this
    have : lanesOf x = l := Option.some.inj this
    omega
   have n4 : 4 ∈ S := Classical.byContradiction fun hn => by
    have := hxy 4 hn
    rw [hxw 4 (by omega), hyw 4 (by omega)] at this
    have : chunksG (x.length : Int) (lanesOf x) = chunksG (y.length : Int) l := Option.some.inj this
    rw [hchx] at this
    omega
   have n7 : 7 ∈ S := Classical.byContradiction fun hn => by
    have := hxy 7 hn
    rw [hxw 7 (by omega), hyw 7 (by omega)] at this
    have he : H.sealL (H.l7 (x.length : Int) (lanesOf x) (chunksG (x.length : Int) (lanesOf x))) = H.sealL (H.l7 (y.length : Int) l (chunksG (y.length : Int) l)) := Option.some.inj this
    rw [hchx, hxl, ← hlen, hW] at he
    obtain ⟨l', hl'⟩ : ∃ n : Nat, l = n := ⟨l.toNat, by omega⟩
    obtain ⟨m', hm'⟩ : ∃ n : Nat, lanesOf x = n := ⟨(lanesOf x).toNat, by omega⟩
    rw [hl', hm'] at he
    exact crc_ne ⟨l', by omega⟩ ⟨m', by omega⟩ ⟨ds.length, by omega⟩ (by show 1 ≤ m'; omega) (by show m' < l'; omega) (by show 1 ≤ ds.length; omega) he.symm
   obtain ⟨i, hi0, hi1, hne⟩ := blk_word hx hg hxl' ht b hb
   have hch2 : chunksG (x.length : Int) (lanesOf x) ≤ 12 := by rw [hchx]; omega
   have htl : tabAt l = 10 + 73 * l := rfl
   have htx : tabAt (lanesOf x) = 10 + 73 * lanesOf x := rfl
   have nt : (tabAt (lanesOf x) + i).toNat ∈ S := Classical.byContradiction fun hn => by
    have h1 := wd_eq (a := tabAt (lanesOf x) + i) (hxy _ hn)
    have h2 := h.zeros (tabAt (lanesOf x) + i).toNat (by omega) (by omega)
    rw [Int.toNat_of_nonneg (by omega)] at h2
    exact hne (h1.trans h2)
   have hv := hok b hb
   unfold hdV mkH at hv
   simp only [Bool.and_eq_true] at hv
   have hsg := headT_sign _ _ hv.1
   have hp0 : 0 ≤ placeG (x.length : Int) (lanesOf x) b := by
    have : 0 ≤ heapAt (x.length : Int) (lanesOf x) := by unfold heapAt; omega
    omega
   have hxh : heapAt (x.length : Int) (lanesOf x) = tabAt (lanesOf x) + chunksG (x.length : Int) (lanesOf x) := rfl
   have na : (placeG (x.length : Int) (lanesOf x) b).toNat ∈ S := Classical.byContradiction fun hn => by
    have h1 := wd_eq (a := placeG (x.length : Int) (lanesOf x) b) (hxy _ hn)
    have hlt : wd y (placeG (x.length : Int) (lanesOf x) b) < 4294967296 := by
     by_cases hz : placeG (x.length : Int) (lanesOf x) b < tabAt l
     ·have h2 := h.zeros (placeG (x.length : Int) (lanesOf x) b).toNat (by omega) (by omega)
      rw [Int.toNat_of_nonneg hp0] at h2
      omega
     ·have hyh : heapAt (y.length : Int) l = tabAt l + chunksG (y.length : Int) l := rfl
      have h2 : (tabL y l)[(placeG (x.length : Int) (lanesOf x) b - tabAt l).toNat]? = y[(placeG (x.length : Int) (lanesOf x) b).toNat]? := by
       unfold tabL
       rw [List.getElem?_drop, List.getElem?_take, if_pos (by omega)]
       congr 1
       omega
      rw [h.tab, List.getElem?_map, List.getElem?_eq_getElem (by omega), wd_getElem hp0 (by omega)] at h2
      have := (encC_range (h.tbl.ok _ (List.getElem_mem (show (placeG (x.length : Int) (lanesOf x) b - tabAt l).toNat < ds.length by omega)))).2
      have h3 := Option.some.inj h2
      omega
    omega
   have := pigeon [3, 4, 7, (tabAt (lanesOf x) + i).toNat, (placeG (x.length : Int) (lanesOf x) b).toNat] S (by
    simp only [List.nodup_cons, List.mem_cons, List.not_mem_nil, or_false, List.nodup_nil, and_true, not_false_eq_true]
    omega) (fun d hd => by
    simp only [List.mem_cons, List.not_mem_nil, or_false] at hd
    rcases hd with rfl | rfl | rfl | rfl | rfl <;> assumption)
   simp only [List.length_cons, List.length_nil] at this
   omega
 refine ⟨fun h0 => ?_, fun i hj => ?_, fun o ho => ?_, ?_⟩
 ·have he : (objsL x)[0]? = some (objsL x)[0] := List.getElem?_eq_getElem h0
  generalize (objsL x)[0] = o at he
  rw [hob, List.getElem?_map] at he
  obtain ⟨b, hb, e⟩ := Option.map_eq_some_iff.mp he
  rw [← e]
  exact hheap b (List.mem_of_getElem? hb)
 ·have hlb : i + 1 < (bsV x (lanesOf x)).length := by rw [hob, List.length_map] at hj; exact hj
  have e1 : (objsL x)[i] = objOf x (lanesOf x) (bsV x (lanesOf x))[i] := by simp only [hob, List.getElem_map]
  have e2 : (objsL x)[i + 1] = objOf x (lanesOf x) (bsV x (lanesOf x))[i + 1] := by simp only [hob, List.getElem_map]
  rw [e1, e2]
  have h1 := hfull _ (List.getElem_mem (show i < (bsV x (lanesOf x)).length by omega))
  have h2 := List.pairwise_iff_getElem.mp hpw i (i + 1) (by omega) hlb (by omega)
  have e3 := place_lo (x.length : Int) (lanesOf x) (bsV x (lanesOf x))[i]
  have e4 := place_lo (x.length : Int) (lanesOf x) (bsV x (lanesOf x))[i + 1]
  unfold hi at h2
  show placeG (x.length : Int) (lanesOf x) _ + 2 + _ ≤ placeG (x.length : Int) (lanesOf x) _
  omega
 ·rw [hob, List.mem_map] at ho
  obtain ⟨b, hb, rfl⟩ := ho
  have h1 := hfull b hb
  refine ⟨?_, ?_, h1.2.2.2.2.2⟩
  ·show 0 ≤ placeG (x.length : Int) (lanesOf x) b
   have : 0 ≤ heapAt (x.length : Int) (lanesOf x) := by unfold heapAt; omega
   omega
  ·show placeG (x.length : Int) (lanesOf x) b + 2 + _ ≤ _
   omega
 ·rw [hob, List.map_map]
  exact hnod
theorem spoilA_l {a b : Int} (h : Stk y l ds T L E R) (hlen : y.length ≤ 1048576) (P : List Spl) (hP : ∀ s ∈ P, (0 ≤ s.f0 ∧ s.f0 ≤ 65535) ∧ Wd s.f1) (hPl : P.length ≤ 4)
  (hend : ∀ (x : List Int) (S : List Nat), U64 x → x.length = y.length → S.length ≤ 4 → (∀ j, j ∉ S → x[j]? = y[j]?) → Evt (fun k => l16_SoundApart.c9 k P true (P.length : Int) a b x) true) : ∀ (d i : Nat) (x : List Int) (S : List Nat), P.length - i = d → i ≤ P.length → U64 x → x.length = y.length → S.length = i → (∀ j, j ∉ S → x[j]? = y[j]?) →
  Evt (fun k => l16_SoundApart.c9 k P true (i : Int) a b x) true := by
 have hheap := h.heap
 have hh : 0 < y.length := by have := h.geo.l; omega
 intro d
 induction d with
 | zero =>
  intro i x S hd hi hx hxl hS hxy
  obtain rfl : i = P.length := by omega
  exact hend x S hx hxl (by omega) hxy
 | succ d ih =>
  intro i x S hd hi hx hxl hS hxy
  have hlt : i < P.length := by omega
  have hs := hP _ (List.getElem_mem hlt)
  have hm : Int.tmod P[i].f0 (x.length : Int) = P[i].f0 % (x.length : Int) := Int.tmod_eq_emod_of_nonneg hs.1.1
  have hm0 := Int.emod_nonneg P[i].f0 (show (x.length : Int) ≠ 0 by omega)
  have hm1 := Int.emod_lt_of_pos P[i].f0 (show (0 : Int) < x.length by omega)
  have hn := ih (i + 1) (x.set (P[i].f0 % (x.length : Int)).toNat P[i].f1) ((P[i].f0 % (x.length : Int)).toNat :: S) (by omega) (by omega) (U64_set hx _ _ hs.2) (by rw [List.length_set]; exact hxl) (by rw [List.length_cons, hS]) (fun j hj => by
   rw [List.getElem?_set_ne (fun e => hj (by rw [e]; exact List.mem_cons_self))]
   exact hxy j (fun hm => hj (List.mem_cons_of_mem _ hm)))
  refine Evt.step (fun k => ?_) hn
  rw [l16_SoundApart.c9, if_pos (decide_eq_true (by omega)), if_pos (by omega), if_pos (by omega), if_neg (by omega), gd P i _ hlt, if_pos (by omega), if_pos (by omega), i64w (x := P[i].f0) (by omega) (by omega), hm, if_pos hm0, if_pos hm1, if_pos (by omega), i64w (by omega) (by omega)]
  rfl
theorem refChunk0 (k : Nat) (w l : Int) (h : Geo w l) : r05_Chunk.f (k + 2000) w l 0 = some (heapAt w l, 32) := by
 have h1 : 1 ≤ chunksG w l := h
 rw [refChunk_eq k w l 0 h (by omega) (by omega), Int.mul_zero, Int.add_zero]
theorem soundApart_ev {a b : Int} {t T L : List Int} {E R : Int} {F : List Int} (h : StockRng a b t T L E R F) {P : List Spl} (hP : ∀ s ∈ P, (0 ≤ s.f0 ∧ s.f0 ≤ 65535) ∧ Wd s.f1) : Evt (fun k => l16_SoundApart.f k a b t T L E R F P) true := by
 unfold l16_SoundApart.f
 refine Evt.bind (Evt.at 700 awake_k) ?_
 by_cases hf : Few4 t T L F
 ·refine Evt.bind (Evt.of fun k => few_yes k a b t T L E R F hf) ?_
  by_cases h4 : (P.length : Int) > 4
  ·exact Evt.of fun k => by rw [if_pos (by rfl), if_pos (decide_eq_true h4)]
  ·refine Evt.congr (f := fun k => (r16_Stocked.f k a b t T L E R F).bind fun y2 => l16_SoundApart.c9 k P true 0 a b y2) ?_ (fun k => by rw [if_pos (by rfl), if_neg (by simpa using h4)])
   obtain ⟨y, ds, hs, hy, he⟩ := stocked_stk (h.args hf)
   obtain ⟨hg, hn, hw, hw0⟩ := geoW_rng a b
   refine Evt.bind he ?_
   refine spoilA_l hs (by omega) P hP (by omega) (fun x S hx hxl hS hxy => ?_) P.length 0 y [] rfl (by omega) hs.u rfl rfl (fun j _ => rfl)
   refine Evt.step (f := fun k => (r15_Geometry.f k a b [] [] [] 0 0 []).bind fun y3 => (r05_Chunk.f k y3.fst y3.snd 0).bind fun y4 => (sound_Objects.f k x).bind fun y5 => l16_SoundApart.c18 k true y4.fst 0 x y5) (fun k => by rw [l16_SoundApart.c9, if_neg (by simp)]) ?_
   refine Evt.bind (Evt.of fun k => geometry_eq k a b h.ha h.hb [] [] [] 0 0 []) ?_
   refine Evt.bind (Evt.at 2000 fun k => refChunk0 k _ _ hg) ?_
   have hxl2 : x.length ≤ 1048576 := by omega
   refine Evt.bind (objects_eqL hx hxl2) ?_
   have hosl := (objs_at hx hxl2 _ rfl).2.1
   have hend : ∀ e, Evt (fun k => l16_SoundApart.c18 k true e ((objsL x).length : Int) x (objsL x)) true := fun e => by
    refine Evt.step (f := fun k => (sound_Sound.f k x).bind fun y6 => if (y6 == 0) = false then some (((objsL x).length : Int) == 0) else some true) (fun k => by rw [l16_SoundApart.c18, if_neg (by simp), if_pos rfl]) ?_
    refine Evt.bind (sound_eq hx hxl2) ?_
    unfold errV
    cases hsv : soundV x with
    | true => exact Evt.of fun k => by rw [if_pos rfl, if_neg (by decide)]
    | false =>
     have h0 : objsL x = [] := by unfold objsL; rw [hsv, if_neg (by decide)]
     refine Evt.of fun k => ?_
     rw [h0, if_pos (by decide)]
     rfl
   cases hsv : soundV x with
   | true =>
    have hdl := hs.len
    have hch := geoW_chunks a b
    rw [hy, hch] at hdl
    have hl3 : geoL a ≤ 3 := by unfold geoL; omega
    have hap := apartL_of hs hl3 (by rw [hy, hdl]; rfl) hx hxl S hS hxy hsv
    rw [hy] at hap
    exact apart18 hxl2 hap (by omega) hend (objsL x).length 0 (heapAt (geoW a b) (geoL a)) (by omega) (by omega) (fun h0 => hap.first h0)
   | false =>
    have h0 : objsL x = [] := by unfold objsL; rw [hsv, if_neg (by decide)]
    have := hend (heapAt (geoW a b) (geoL a))
    rw [h0] at this ⊢
    exact this
 ·refine Evt.bind (Evt.of fun k => few_no k a b t T L E R F hf) ?_
  exact Evt.of fun k => by rw [if_neg (by decide)]
end
end Go.Proofs.YtbbpcbjgekencaaGreatDoor.PS
end
section
set_option linter.unusedVariables false
set_option linter.unusedSimpArgs false
namespace Go.Proofs.YtbbpcbjgekencaaGreatDoor.Opens
open Go.RowKit Go.ChangeShapes Go.WideShapes Go.Deep Go.Proofs.YtbbpcbjgekencaaGreatDoorW.PrintWords
def Opens (P : Program) (t : TypeId) {α : Type} (d : Kd α) (wf : α → Prop) : Prop :=
 ∀ {H : Type} (enc : TypeId × Value → H) (w : World) (base : Nat) (spare : Nat → Bool) (held : Bool) (fuel : Nat) (cs : List Value) (x : DataW H × List MemPlace),
  DataW.trod enc P w base spare held fuel t cs = some x → ∃ a : α, d.K w a cs ∧ wf a
theorem opens_int {P : Program} {t : TypeId} {k : IntKind} (ht : P.underlying t = some (.int k)) : Opens P t (Kd.int k) (fun n => (Lit.int k n).wf = true) := by
 intro H enc w base spare held fuel cs x h
 obtain ⟨n, rfl, _, hw⟩ := DataW.trod_int ht h
 exact ⟨n, rfl, hw⟩
theorem list_of_range {α : Type} (p : Nat → α → Prop) : ∀ n, (∀ i, i < n → ∃ a, p i a) → ∃ xs : List α, xs.length = n ∧ ∀ i a, xs[i]? = some a → p i a
 | 0, _ => ⟨[], rfl, fun i a h => by simp at h⟩
 | n + 1, h => by
  obtain ⟨xs, hl, hx⟩ := list_of_range p n (fun i hi => h i (by omega))
  obtain ⟨a, ha⟩ := h n (by omega)
  refine ⟨xs ++ [a], by simp [hl], fun i b hb => ?_⟩
  rcases Nat.lt_or_ge i xs.length with hi | hi
  ·rw [List.getElem?_append_left hi] at hb; exact hx i b hb
  ·rw [List.getElem?_append_right hi] at hb
   have : i = n := by
    have := (List.getElem?_eq_some_iff.1 hb).1
    simp at this; omega
   subst this
   rw [hl, Nat.sub_self] at hb
   injection hb with hb
   subst hb
   exact ha
theorem opens_slice {P : Program} {t e : TypeId} {α : Type} {d : Kd α} {wf : α → Prop} (ht : P.underlying t = some (.slice e)) (he : Opens P e d wf) (hsz : P.cellsOf e = d.sz) :
  Opens P t (Kd.slice e d) (fun xs => xs.length ≤ maxLen ∧ ∀ x ∈ xs, wf x) := by
 intro H enc w base spare held fuel cs x h
 rcases open_slice ht h with ⟨rfl, _⟩ | ⟨a, len, cap, m, n, D, Pl, rfl, _, hl, hm, hmm, _, hi⟩
 ·exact ⟨[], ⟨none, 0, rfl, Nat.le_refl _, rfl, Nat.zero_le _, fun h => absurd h (Nat.lt_irrefl 0)⟩, Nat.zero_le _, fun x hx => absurd hx List.not_mem_nil⟩
 ·have hlm : len ≤ m := by rw [hmm]; split <;> omega
  obtain ⟨xs, hxl, hx⟩ := list_of_range (fun i (b : α) => ∃ c, c.length = d.sz ∧ d.K w b c ∧ (∀ j u, c[j]? = some u → w.cell? (a.add (i * d.sz + j)) = some u) ∧ wf b) len (fun i hil => by
   obtain ⟨cs', hc, ht'⟩ := hi i (by omega)
   obtain ⟨b, hK, hw⟩ := he enc w base spare held n cs' _ ht'
   obtain ⟨_, hcl, hat⟩ := World.cells?_some hc
   refine ⟨b, cs', d.K_len hK, hK, fun j u hu => ?_, hw⟩
   have hj := (List.getElem?_eq_some_iff.1 hu).1
   have := hat j (by omega)
   rw [← hsz, ← Go.Deep.add_add, this]
   exact hu)
  refine ⟨xs, ⟨some a, cap, by rw [hxl], by omega, rfl, by unfold maxLen at hm; omega, fun _ => ⟨a, rfl, fun j p hj => ?_⟩⟩, by omega, fun b hb => ?_⟩
  ·obtain ⟨c, h1, h2, h3, _⟩ := hx j p hj
   exact ⟨c, h1, h2, h3⟩
  ·obtain ⟨i, hi', e⟩ := List.mem_iff_getElem.1 hb
   obtain ⟨_, _, _, _, hw⟩ := hx i b (by rw [List.getElem?_eq_getElem hi', e])
   exact hw
def OpensF (P : Program) : List Field → Nat → {α : Type} → Kd α → (α → Prop) → Prop := fun fs off α d wf =>
 ∀ {H : Type} (enc : TypeId × Value → H) (w : World) (base : Nat) (spare : Nat → Bool) (held : Bool) (n : Nat) (cs : List Value),
  cs.length = d.sz → (∀ (i : Nat) (f : Field), fs[i]? = some f → ∃ y, DataW.trod enc P w base spare held n f.type ((cs.drop (f.offset - off)).take (P.cellsOf f.type)) = some y) → ∃ a : α, d.K w a cs ∧ wf a
theorem opensF_last {P : Program} {f : Field} {off : Nat} {α : Type} {d : Kd α} {wf : α → Prop} (hf : Opens P f.type d wf) (ho : f.offset = off) (hsz : P.cellsOf f.type = d.sz) : OpensF P [f] off d wf := by
 intro H enc w base spare held n cs hl h
 obtain ⟨y, hy⟩ := h 0 f rfl
 rw [ho, Nat.sub_self, List.drop_zero, hsz, ← hl, List.take_length] at hy
 exact hf enc w base spare held n cs y hy
theorem opensF_cons {P : Program} {f : Field} {fs : List Field} {off : Nat} {α β : Type} {d : Kd α} {d' : Kd β} {wf : α → Prop} {wf' : β → Prop} (hf : Opens P f.type d wf) (ho : f.offset = off) (hsz : P.cellsOf f.type = d.sz)
  (hr : OpensF P fs (off + d.sz) d' wf') (hge0 : (fs.all fun g => decide (off + d.sz ≤ g.offset)) = true) : OpensF P (f :: fs) off (Kd.pair d d') (fun p => wf p.1 ∧ wf' p.2) := by
 have hge : ∀ g ∈ fs, off + d.sz ≤ g.offset := fun g hg => of_decide_eq_true (List.all_eq_true.1 hge0 g hg)
 intro H enc w base spare held n cs hl h
 have hl' : cs.length = d.sz + d'.sz := hl
 obtain ⟨y, hy⟩ := h 0 f rfl
 rw [ho, Nat.sub_self, List.drop_zero, hsz] at hy
 obtain ⟨a, ha, hwa⟩ := hf enc w base spare held n _ y hy
 obtain ⟨b, hb, hwb⟩ := hr enc w base spare held n (cs.drop d.sz) (by rw [List.length_drop]; omega) (fun i g hg => by
  obtain ⟨z, hz⟩ := h (i + 1) g (by simpa using hg)
  refine ⟨z, ?_⟩
  have hgm := hge g (List.mem_of_getElem? hg)
  rw [List.drop_drop, show d.sz + (g.offset - (off + d.sz)) = g.offset - off by omega]
  exact hz)
 exact ⟨(a, b), ⟨cs.take d.sz, cs.drop d.sz, (List.take_append_drop _ _).symm, ha, hb⟩, hwa, hwb⟩
theorem opens_struct {P : Program} {t : TypeId} {fs : List Field} {α β : Type} {d : Kd β} {wf : β → Prop} (f : α → β) (g : β → α) (hfg : ∀ b, f (g b) = b) (ht : P.underlying t = some (.struct fs.toArray)) (hs : P.cellsOf t = d.sz) (h : OpensF P fs 0 d wf) :
  Opens P t (Kd.iso d f) (fun x => wf (f x)) := by
 intro H enc w base spare held fuel cs x hx
 obtain ⟨xs, n, _, _, hl, hxl, hf⟩ := DataW.trod_struct ht hx
 obtain ⟨b, hb, hw⟩ := h enc w base spare held n cs (by omega) (fun i q hq => by
  have h1 := hf i q (by simpa using hq)
  have hlt : i < xs.length := by
   rw [hxl]
   have := (List.getElem?_eq_some_iff.1 hq).1
   simpa using this
  rw [List.getElem?_eq_getElem hlt] at h1
  rw [Nat.sub_zero]
  exact ⟨_, h1⟩)
 refine ⟨g b, ?_, ?_⟩
 ·show d.K w (f (g b)) cs
  rw [hfg]; exact hb
 ·show wf (f (g b))
  rw [hfg]; exact hw
theorem sized_any {H : Type} {enc : TypeId × Value → H} {P : Program} {W : World} {base : Nat} {spare : Nat → Bool} {held : Bool} {t e : TypeId} {a : Option Addr} {len cap : Nat} {d : DataW H} {ps : List MemPlace} {ts : List TypeId} {ds : List (DataW H)} {j : Nat}
  (hsz : (DataW.weightsEach P ts ds).all (· ≤ reachBytes) = true) (ht : ts[j]? = some t) (hd : ds[j]? = some d) (hu : P.underlying t = some (.slice e)) {B : Nat} (hB : P.bytesOf e = B)
  (h : DataW.Trod enc P W base spare held t (.slice a len cap) d ps) : len * B ≤ 140737488351232 := by
 obtain ⟨fuel, hf⟩ := h
 rcases open_slice hu hf with ⟨hcs, _⟩ | ⟨x, l, c, m, n, D, Pl, hcs, _, hl, _, _, hx, _⟩
 ·simp [Value.cells] at hcs
  obtain ⟨rfl, rfl, rfl⟩ := hcs
  simp
 ·simp [Value.cells] at hcs
  obtain ⟨rfl, rfl, rfl⟩ := hcs
  obtain ⟨hx, _⟩ := Prod.mk.inj hx
  subst hx
  have z := sized_slice hsz ht hd hu
  rw [hB] at z
  refine Nat.le_trans (Nat.mul_le_mul_right _ ?_) z
  simp
end Go.Proofs.YtbbpcbjgekencaaGreatDoor.Opens
end
section
set_option linter.unusedVariables false
set_option linter.unusedSimpArgs false
namespace Go.Proofs.YtbbpcbjgekencaaGreatDoor.Q
open Go.RowKit Go.Proofs.YtbbpcbjgekencaaGreatDoorW.PrintWords Go.Proofs.YtbbpcbjgekencaaGreatDoor.Opens
structure S27 where
 f0 : Int
 f1 : Int
 f2 : (List Int)
 f3 : (List Int)
 f4 : (List Int)
 f5 : Int
 f6 : Int
 f7 : (List Int)
def k27 : Kd S27 := Kd.iso (Kd.pair (Kd.int .u8) (Kd.pair (Kd.int .u8) (Kd.pair (Kd.slice 32 (Kd.int .u16)) (Kd.pair (Kd.slice 5 (Kd.int .u8)) (Kd.pair (Kd.slice 5 (Kd.int .u8)) (Kd.pair (Kd.int .u32) (Kd.pair (Kd.int .u8) (Kd.slice 33 (Kd.int .u64))))))))) (fun x : S27 => (x.f0, x.f1, x.f2, x.f3, x.f4, x.f5, x.f6, x.f7))
theorem k27_open {w : World} {x : S27} {cs : List Value} (h : k27.K w x cs) : ∃ A2 c2 A3 c3 A4 c4 A7 c7, cs = [.int .u8 x.f0, .int .u8 x.f1, .slice A2 x.f2.length c2, .slice A3 x.f3.length c3, .slice A4 x.f4.length c4, .int .u32 x.f5, .int .u8 x.f6, .slice A7 x.f7.length c7] ∧ x.f2.length ≤ c2 ∧ (Kd.int .u16).C w A2 x.f2.length x.f2 ∧ x.f3.length ≤ c3 ∧ (Kd.int .u8).C w A3 x.f3.length x.f3 ∧ x.f4.length ≤ c4 ∧ (Kd.int .u8).C w A4 x.f4.length x.f4 ∧ x.f7.length ≤ c7 ∧ (Kd.int .u64).C w A7 x.f7.length x.f7 := by
 obtain ⟨_, _, rfl, rfl, ⟨_, _, rfl, rfl, ⟨_, _, rfl, ⟨A2, c2, rfl, l2, g2⟩, ⟨_, _, rfl, ⟨A3, c3, rfl, l3, g3⟩, ⟨_, _, rfl, ⟨A4, c4, rfl, l4, g4⟩, ⟨_, _, rfl, rfl, ⟨_, _, rfl, rfl, ⟨A7, c7, rfl, l7, g7⟩⟩⟩⟩⟩⟩⟩⟩ := h
 exact ⟨A2, c2, A3, c3, A4, c4, A7, c7, rfl, l2, g2, l3, g3, l4, g4, l7, g7⟩
def wf27 (x : S27) : Prop := ((Lit.int .u8 x.f0).wf = true) ∧ ((Lit.int .u8 x.f1).wf = true) ∧ ((x.f2.length ≤ maxLen ∧ ∀ x_ ∈ x.f2, (Lit.int .u16 x_).wf = true)) ∧ ((x.f3.length ≤ maxLen ∧ ∀ x_ ∈ x.f3, (Lit.int .u8 x_).wf = true)) ∧ ((x.f4.length ≤ maxLen ∧ ∀ x_ ∈ x.f4, (Lit.int .u8 x_).wf = true)) ∧ ((Lit.int .u32 x.f5).wf = true) ∧ ((Lit.int .u8 x.f6).wf = true) ∧ ((x.f7.length ≤ maxLen ∧ ∀ x_ ∈ x.f7, (Lit.int .u64 x_).wf = true))
theorem op27 : Opens Tryz.prog 27 k27 wf27 := opens_struct (fun x : S27 => (x.f0, x.f1, x.f2, x.f3, x.f4, x.f5, x.f6, x.f7)) (fun b => ⟨b.1, b.2.1, b.2.2.1, b.2.2.2.1, b.2.2.2.2.1, b.2.2.2.2.2.1, b.2.2.2.2.2.2.1, b.2.2.2.2.2.2.2⟩) (fun _ => rfl) Tryz.underlying27 (by kernel_rfl) (opensF_cons (opens_int (k := .u8) Tryz.underlying5) rfl (by kernel_rfl) (opensF_cons (opens_int (k := .u8) Tryz.underlying5) rfl (by kernel_rfl) (opensF_cons (opens_slice Tryz.underlying22 (opens_int (k := .u16) Tryz.underlying32) (by kernel_rfl)) rfl (by kernel_rfl) (opensF_cons (opens_slice Tryz.underlying23 (opens_int (k := .u8) Tryz.underlying5) (by kernel_rfl)) rfl (by kernel_rfl) (opensF_cons (opens_slice Tryz.underlying23 (opens_int (k := .u8) Tryz.underlying5) (by kernel_rfl)) rfl (by kernel_rfl) (opensF_cons (opens_int (k := .u32) Tryz.underlying24) rfl (by kernel_rfl) (opensF_cons (opens_int (k := .u8) Tryz.underlying5) rfl (by kernel_rfl) (opensF_last (opens_slice Tryz.underlying25 (opens_int (k := .u64) Tryz.underlying33) (by kernel_rfl)) rfl (by kernel_rfl)) (by decide)) (by decide)) (by decide)) (by decide)) (by decide)) (by decide)) (by decide))
def wf35 (x : S35) : Prop := ((Lit.int .u16 x.f0).wf = true) ∧ ((Lit.int .u64 x.f1).wf = true)
theorem op35 : Opens Tryz.prog 35 k35 wf35 := opens_struct (fun x : S35 => (x.f0, x.f1)) (fun b => ⟨b.1, b.2⟩) (fun _ => rfl) Tryz.underlying35 (by kernel_rfl) (opensF_cons (opens_int (k := .u16) Tryz.underlying32) rfl (by kernel_rfl) (opensF_last (opens_int (k := .u64) Tryz.underlying33) rfl (by kernel_rfl)) (by decide))
end Go.Proofs.YtbbpcbjgekencaaGreatDoor.Q
end
section
set_option linter.unusedVariables false
set_option linter.unusedSimpArgs false
namespace Go.Proofs.YtbbpcbjgekencaaGreatDoor.Pure
open Go Go.RowKit Go.Proofs.YtbbpcbjgekencaaGreatDoor.Q Go.Proofs.YtbbpcbjgekencaaGreatDoorW.PrintWords Go.Proofs.YtbbpcbjgekencaaGreatDoor Go.Proofs.YtbbpcbjgekencaaGreatDoor.PS
theorem SoundApart : ∀ (a0 : S27) (l1 : List (S35)), wf27 a0 → l1.length ≤ maxLen → l1.length * 16 ≤ 140737488351232 → (∀ x_ ∈ l1, wf35 x_) → ∃ k, H.l16_SoundApart.f k a0.f0 a0.f1 a0.f2 a0.f3 a0.f4 a0.f5 a0.f6 a0.f7 l1 = some true := by
 intro a0 l1 h _ _ h1
 obtain ⟨i0, i1, ⟨_, i2⟩, ⟨_, i3⟩, ⟨_, i4⟩, i5, i6, ⟨_, i7⟩⟩ := h
 obtain ⟨K, hK⟩ := soundApart_ev ⟨(wu8 i0).1, (wu8 i1).1, fun x hx => wu16 (i2 x hx), fun x hx => wu8 (i3 x hx), fun x hx => wu8 (i4 x hx), wu32 i5, wu8 i6, fun x hx => wuu64 (i7 x hx)⟩ (P := l1) (fun x hx => ⟨wu16 (h1 x hx).1, wuu64 (h1 x hx).2⟩)
 exact ⟨K, hK K (Nat.le_refl _)⟩
end Go.Proofs.YtbbpcbjgekencaaGreatDoor.Pure
end
section
set_option linter.unusedVariables false
set_option linter.unusedSimpArgs false
namespace Go.Proofs.YtbbpcbjgekencaaGreatDoor.Q
open Go.RowKit Go.Proofs.YtbbpcbjgekencaaGreatDoorW.PrintWords Go.Proofs.YtbbpcbjgekencaaGreatDoorW.PrintLast Go.Proofs.YtbbpcbjgekencaaGreatDoorW.PrintMore
attribute [local go_sem] max2_int min2_int max_two min_two max_three min_three max_four min_four   -- for this text's walks alone
set_option linter.unusedVariables false
set_option linter.unusedSimpArgs false
def Gl (w : World) : Prop := w.cell? ⟨0, 0, none⟩ = some (.int .i64 4) ∧ w.cell? ⟨0, 1, none⟩ = some (.int .i64 8) ∧ w.cell? ⟨0, 2, none⟩ = some (.int .i64 16)
theorem Gl.below {w W : World} (h : Gl w) (hb : Below w.heap.size w W) : Gl W := ⟨pw_cell_below hb h.1, pw_cell_below hb h.2.1, pw_cell_below hb h.2.2⟩
theorem Gl.drewN {w : World} (h : Gl w) (n : Nat) : Gl (w.drewN n) := h
theorem Gl.drew {w : World} (h : Gl w) : Gl w.drew := h
theorem Gl.alloc {w : World} (h : Gl w) (o : Obj) : Gl (w.alloc o) := h.below ((Below.refl _ w).alloc (Nat.le_refl _) o)
def CallsG (n : Nat) (args : Array Value) (w : World) (R : Ending → World → Prop) : Prop := Gl w → Calls Tryz.prog n args w R
theorem CallsG.mono {n : Nat} {args : Array Value} {w : World} {R R' : Ending → World → Prop} (h : CallsG n args w R) (k : ∀ e w', R e w' → R' e w')
  (hG : Gl w := by first | exact HG.out | exact Gl.drewN HG.out _ | exact Gl.below HG.out HB.out | exact Gl.below HG.out (by repeat (first | exact HB.out | exact Below.refl _ _ | apply below_alloc | apply pw_below_drewN | apply below_drew1 | refine below_set ?_ (Aside0.out (by assumption)))) | (repeat (first | exact HG.out | apply Gl.drewN | apply Gl.drew | apply Gl.alloc))) : Calls Tryz.prog n args w R' := (h hG).mono k
end Go.Proofs.YtbbpcbjgekencaaGreatDoor.Q
end
section
set_option linter.unusedVariables false
set_option linter.unusedSimpArgs false
namespace Go.Proofs.YtbbpcbjgekencaaGreatDoor.Laid
open Go.ChangeShapes Go.WideShapes Go.RowKit Go.Proofs.YtbbpcbjgekencaaGreatDoor.Q
abbrev rows {H : Type} : List (String × DataW H) := [("lockfast/class.blocks", Rows.laid_lockfast_class_blocks)]
theorem named : Tryz.prog.globalNamed "lockfast/class.blocks" = some 0 := by kernel_rfl
theorem typed : (Tryz.prog.globals[0]?).map (·.type) = some 159 := by kernel_rfl
theorem cellsT : Tryz.prog.cellsOf 159 = 3 := by kernel_rfl
theorem cellsE : Tryz.prog.cellsOf 3 = 1 := by kernel_rfl
theorem int_of_trod {H : Type} {enc : TypeId × Value → H} {P : Program} {w : World} {base : Nat} {sp : Nat → Bool} {held : Bool} {fuel : Nat} {t : TypeId} {k : IntKind} {c : Value} {y : DataW H × List MemPlace}
  (ht : P.underlying t = some (.int k)) (h : DataW.trod enc P w base sp held fuel t [c] = some y) : ∃ n, c = .int k n ∧ y = (.lit (.int k n), []) := by
 cases fuel with
 | zero => simp [DataW.trod] at h
 | succ fuel =>
  cases c <;> simp [DataW.trod, ht] at h
  rename_i k' n
  obtain ⟨⟨rfl, _⟩, rfl⟩ := h
  exact ⟨n, rfl, rfl⟩
def cells3 : Array Value := #[.int .i64 4, .int .i64 8, .int .i64 16]
theorem cells_of_laid {W : World} (h : laidMet Tryz.prog rows W) : W.var? Tryz.prog "lockfast/class.blocks" = some cells3 := by
 obtain ⟨ps, ⟨g, t, cs, fuel, p, q, hg, ht, hvar, hd, _, _⟩, _⟩ := h
 obtain rfl := Option.some.inj (named.symm.trans hg)
 obtain rfl := Option.some.inj (typed.symm.trans ht)
 rw [hvar]
 congr 1
 obtain ⟨l⟩ := cs
 cases fuel with
 | zero => simp [DataW.trod] at hd
 | succ fuel =>
  simp only [DataW.trod, Tryz.underlying159, cellsT, cellsE] at hd
  split at hd
  ·rename_i hl
   obtain ⟨c0, c1, c2, rfl⟩ : ∃ c0 c1 c2, l = [c0, c1, c2] := by
    match l, hl with
    | [a, b, c], _ => exact ⟨a, b, c, rfl⟩
   have e : List.range 3 = [0, 1, 2] := rfl
   rw [e] at hd
   simp only [Option.map_eq_some_iff, List.mapM_cons, List.mapM_nil, Option.bind_eq_bind, Option.bind_eq_some_iff, Option.pure_def, Option.some.injEq] at hd
   obtain ⟨xs, ⟨y0, h0, _, ⟨y1, h1, _, ⟨y2, h2, _, rfl, rfl⟩, rfl⟩, rfl⟩, hx⟩ := hd
   obtain ⟨n0, rfl, rfl⟩ := int_of_trod Tryz.underlying3 h0
   obtain ⟨n1, rfl, rfl⟩ := int_of_trod Tryz.underlying3 h1
   obtain ⟨n2, rfl, rfl⟩ := int_of_trod Tryz.underlying3 h2
   simp [Rows.laid_lockfast_class_blocks] at hx
   obtain ⟨⟨rfl, rfl, rfl⟩, _⟩ := hx
   rfl
  ·cases hd
theorem gl {W : World} (h : laidMet Tryz.prog rows W) : Gl W := by
 have hv := cells_of_laid h
 refine ⟨?_, ?_, ?_⟩
 ·simpa [cells3] using World.var?_cell named hv 0
 ·simpa [cells3] using World.var?_cell named hv 1
 ·simpa [cells3] using World.var?_cell named hv 2
noncomputable def laidWorld (os : Os) : World :=
 { World.holding Tryz.prog os ⟨#[], #[], []⟩ with heap := (World.holding Tryz.prog os ⟨#[], #[], []⟩).heap.modify 0 fun
   | .cells _ t frozen => .cells cells3 t frozen
   | o => o }
theorem laidWorld_row (os : Os) (args : Array Value) : ((laidWorld os).forCall (fun _ _ => 0) ⟨#[], args, []⟩).memory.heap[0]? = some (.cells cells3 159 (0, 0)) := by kernel_rfl
set_option maxRecDepth 100000 in
theorem laidWorld_met (os : Os) (args : Array Value) : laidMet Tryz.prog rows ((laidWorld os).forCall (fun _ _ => 0) ⟨#[], args, []⟩).memory := by
 refine ⟨_, ⟨0, 159, cells3, 8, [], [], by kernel_rfl, by kernel_rfl, by kernel_rfl, by kernel_rfl, rfl, rfl⟩, by decide, fun b off h => ?_⟩
 have h' : MemPlace.cell b off ∈ [MemPlace.cell 0 0, .cell 0 1, .cell 0 2] := h
 have hb : b = 0 := by
  simp at h'
  omega
 subst hb
 refine ⟨⟨_, _, laidWorld_row os args⟩, fun u v hc => ?_⟩
 simp only [World.cell?, laidWorld_row os args] at hc
 simp at h'
 rcases h' with rfl | rfl | rfl <;> simp [cells3] at hc
end Go.Proofs.YtbbpcbjgekencaaGreatDoor.Laid
end
