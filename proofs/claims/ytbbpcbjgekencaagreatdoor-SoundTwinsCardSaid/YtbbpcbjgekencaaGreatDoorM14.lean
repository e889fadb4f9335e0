import Derived.Test.YtbbpcbjgekencaaGreatDoorM13
import Derived.ChangeSame
import Derived.ChangeVars
import Derived.Deep.Fields
import Derived.Deep.Slices
import Derived.JoinedOf
import Derived.LaidLaws
import Derived.SizedLaws
import Derived.Test.YtbbpcbjgekencaaGreatDoorRows
import Derived.WideShapes
section
set_option linter.unusedVariables false
set_option linter.unusedSimpArgs false
set_option linter.unusedVariables false
set_option linter.unusedSimpArgs false
namespace Go.Proofs.YtbbpcbjgekencaaGreatDoor.PS
open Go Go.Proofs.YtbbpcbjgekencaaGreatDoor.Q Go.Proofs.YtbbpcbjgekencaaGreatDoor.FT Go.Proofs.YtbbpcbjgekencaaGreatDoor.Ev
section
variable {w l E R : Int} {T L : List Int}
theorem layB_at {x : List Int} {b : Blk} {i j : Nat} (h8 : j ≠ 8) (h0 : j ≠ (placeG w l b).toNat) (h1 : j ≠ (placeG w l b + 1).toNat) : (layB w l E R T L x b i)[j]? = x[j]? := by
 unfold layB
 split
 ·rw [List.getElem?_set_ne (Ne.symm h8), List.getElem?_set_ne (Ne.symm h1), List.getElem?_set_ne (Ne.symm h0)]
 ·rw [List.getElem?_set_ne (Ne.symm h1), List.getElem?_set_ne (Ne.symm h0)]
theorem layG_at {j : Nat} (h8 : j ≠ 8) : ∀ (bs : List Blk) (i : Nat) (x : List Int), (∀ b ∈ bs, j ≠ (placeG w l b).toNat ∧ j ≠ (placeG w l b + 1).toNat) → (layG w l E R T L x i bs)[j]? = x[j]?
 | [], _, _, _ => rfl
 | b :: bs, i, x, h => by
  rw [layG, layG_at h8 bs (i + 1) _ (fun d hd => h d (List.mem_cons_of_mem _ hd))]
  exact layB_at h8 (h b List.mem_cons_self).1 (h b List.mem_cons_self).2
theorem layB_hd {x : List Int} {b : Blk} {i : Nat} (hp : 9 ≤ placeG w l b) (hx : placeG w l b + 1 < x.length) :
  (layB w l E R T L x b i)[(placeG w l b).toNat]? = some (hdW T L b i) ∧ (layB w l E R T L x b i)[(placeG w l b + 1).toNat]? = some (serW E i) := by
 have h1 : (placeG w l b + 1).toNat ≠ (placeG w l b).toNat := by omega
 unfold layB
 split
 ·rw [List.getElem?_set_ne (by omega), List.getElem?_set_ne h1, List.getElem?_set_self (by omega), List.getElem?_set_ne (by omega), List.getElem?_set_self (by rw [List.length_set]; omega)]
  exact ⟨rfl, rfl⟩
 ·rw [List.getElem?_set_ne h1, List.getElem?_set_self (by omega), List.getElem?_set_self (by rw [List.length_set]; omega)]
  exact ⟨rfl, rfl⟩
theorem layG_hd : ∀ (bs : List Blk) (i : Nat) (x : List Int), (∀ b ∈ bs, 9 ≤ placeG w l b ∧ placeG w l b + 1 < x.length ∧ 4 ≤ b.f2) → (bs.Pairwise fun b d => hi b ≤ lo d) → ∀ (n : Nat) (h : n < bs.length),
  (layG w l E R T L x i bs)[(placeG w l bs[n]).toNat]? = some (hdW T L bs[n] (i + n)) ∧ (layG w l E R T L x i bs)[(placeG w l bs[n] + 1).toNat]? = some (serW E (i + n))
 | [], _, _, _, _, n, h => by simp at h
 | b :: bs, i, x, hb, hpw, n, h => by
  have hb0 := hb b List.mem_cons_self
  obtain ⟨hpw1, hpw2⟩ := List.pairwise_cons.mp hpw
  rw [layG]
  cases n with
  | zero =>
   simp only [List.getElem_cons_zero, Nat.add_zero]
   have hfar : ∀ d ∈ bs, placeG w l b + 4 ≤ placeG w l d := fun d hd => by
    have := hpw1 d hd
    rw [place_lo, place_lo]
    unfold hi at this
    omega
   rw [layG_at (by omega) bs (i + 1) _ (fun d hd => by have := hfar d hd; omega), layG_at (by omega) bs (i + 1) _ (fun d hd => by have := hfar d hd; omega)]
   exact layB_hd hb0.1 hb0.2.1
  | succ n =>
   have := layG_hd bs (i + 1) (layB w l E R T L x b i) (fun d hd => by rw [layB_len]; exact hb d (List.mem_cons_of_mem _ hd)) hpw2 n (by simpa using h)
   simp only [List.getElem_cons_succ]
   rw [show i + 1 + n = i + (n + 1) by omega] at this
   exact this
theorem layG_8 : ∀ (bs : List Blk) (i : Nat) (x : List Int), (∀ b ∈ bs, 9 ≤ placeG w l b) → 8 < x.length → (layG w l E R T L x i bs)[8]? = if h : (i : Int) < R ∧ R ≤ i + bs.length then some (placeG w l (bs[(R - i - 1).toNat]'(by omega))) else x[8]?
 | [], i, x, _, _ => by
  rw [dif_neg (by simp only [List.length_nil]; omega)]
  rfl
 | b :: bs, i, x, hb, hx => by
  have hb0 := hb b List.mem_cons_self
  have hn := layG_8 bs (i + 1) (layB w l E R T L x b i) (fun d hd => hb d (List.mem_cons_of_mem _ hd)) (by rw [layB_len]; exact hx)
  rw [layG, hn]
  by_cases h1 : ((i + 1 : Nat) : Int) < R ∧ R ≤ (i + 1 : Nat) + bs.length
  ·have h2 : (i : Int) < R ∧ R ≤ i + (b :: bs).length := by rw [List.length_cons]; omega
   rw [dif_pos h1, dif_pos h2]
   congr 2
   have : (R - i - 1).toNat = (R - (i + 1 : Nat) - 1).toNat + 1 := by omega
   simp only [this, List.getElem_cons_succ]
  ·rw [dif_neg h1]
   by_cases h2 : R = (i : Int) + 1
   ·have h3 : (i : Int) < R ∧ R ≤ i + (b :: bs).length := by rw [List.length_cons]; omega
    rw [dif_pos h3]
    have h0 : (R - i - 1).toNat = 0 := by omega
    simp only [h0, List.getElem_cons_zero]
    unfold layB
    rw [if_pos h2, List.getElem?_set_self (by simpa using hx)]
   ·rw [dif_neg (by rw [List.length_cons]; omega)]
    unfold layB
    rw [if_neg h2, List.getElem?_set_ne (by omega), List.getElem?_set_ne (by omega)]
end
structure Plt (y : List Int) (l : Int) (ds : List Chk) : Prop where
 geo : Geo (y.length : Int) l
 u : U64 y
 head : y.take 8 = H.headL (y.length : Int) l (chunksG (y.length : Int) l)
 marks : ∀ i : Nat, (i : Int) < l → wd y (10 + (i : Int)) = 0
 tab : tabL y l = ds.map encC
 tbl : Tabl ds
 len : (ds.length : Int) = chunksG (y.length : Int) l
 few : ds.length ≤ 8
 logs : ∀ c ∈ ds, c.f0 ≠ 4
structure Stk (y : List Int) (l : Int) (ds : List Chk) (T L : List Int) (E R : Int) : Prop extends Plt y l ds where
 epoch : wd y 9 = E
 hd : ∀ (i : Nat) (h : i < (blks ds).length), hdV y l (blks ds)[i] = (1 + oneV T i, sizeS (blks ds)[i].f2 (oneV L i), serW E i, true)
 root : wd y 8 = if h : 0 < R ∧ R ≤ (blks ds).length then placeG (y.length : Int) l ((blks ds)[(R - 1).toNat]'(by omega)) else 0
theorem headT_of {t s q : Int} (ht : 1 ≤ t ∧ t ≤ 65535) (hs : 0 ≤ s ∧ s ≤ 4096) (hq : 1 ≤ q) : headT (18038886832455811072 + 65536 * s + t) q = (t, s, q, true) := by
 have e1 : (18038886832455811072 + 65536 * s + t) % 65536 = t := by omega
 have e2 : (18038886832455811072 + 65536 * s + t) / 65536 % 65536 = s := by omega
 have e3 : (18038886832455811072 + 65536 * s + t) / 4294967296 = 4200005632 := by omega
 unfold headT
 rw [e1, e2, e3, if_pos ⟨decide_eq_true (by omega), rfl⟩]
theorem heap9 {w l : Int} (h : Geo w l) : 10 + 73 * l + chunksG w l = heapAt w l := by unfold heapAt; omega
theorem wd_eq {x y : List Int} {a : Int} (h : x[a.toNat]? = y[a.toNat]?) : wd x a = wd y a := by
 unfold wd
 rw [List.getD_eq_getElem?_getD, List.getD_eq_getElem?_getD, h]
theorem stocked_stk {a b : Int} {t T L : List Int} {E R : Int} {F : List Int} (h : StockArgs a b t T L E R F) :
  ∃ y ds, Stk y (geoL a) ds T L E R ∧ (y.length : Int) = geoW a b ∧ Evt (fun k => r16_Stocked.f k a b t T L E R F) y := by
 obtain ⟨x, ds, hp, hx, hlog, he⟩ := stocked_eq h
 obtain ⟨hg, hn, hw, hw0⟩ := geoW_rng a b
 obtain ⟨hdl, hb⟩ := blks_ok hp (by omega)
 have hbl := blks_len ds
 have hE := h.hE
 have hdl' := hdl
 rw [hx] at hdl hb
 obtain ⟨r1, r2⟩ := layG_U64 T L h.hT h.hL _ _ E R h.hE hg (by omega) ⟨hw0, hw⟩ (blks ds) 0 x hb (by omega) hp.u
 have hl1 := hg.l
 have hhp := heap9 hg
 have hpl : ∀ d ∈ blks ds, heapAt (geoW a b) (geoL a) ≤ placeG (geoW a b) (geoL a) d ∧ placeG (geoW a b) (geoL a) d + 1 < x.length ∧ 4 ≤ d.f2 := fun d hd => by
  have hbi := (hb d hd).1
  have hf := place_fit (x := x) (l := geoL a) (b := d) (by rw [hx]; exact hg) (by rw [hx]; exact hbi)
  rw [hx] at hf
  have h4 := hbi.w0
  have hm := hbi.mul
  have hc := hbi.c0
  refine ⟨by unfold placeG; omega, by omega, h4⟩
 have hpw := blks_apart ds hp.ds.ok hp.ds.right
 have hlow : ∀ j : Nat, j ≠ 8 → (j : Int) < heapAt (geoW a b) (geoL a) → (layG (geoW a b) (geoL a) E R T L x 0 (blks ds))[j]? = x[j]? := fun j h8 hj => layG_at h8 _ _ _ (fun d hd => by have := (hpl d hd).1; omega)
 have hhd := layG_hd (w := geoW a b) (l := geoL a) (E := E) (R := R) (T := T) (L := L) (blks ds) 0 x (fun d hd => ⟨by have := (hpl d hd).1; omega, (hpl d hd).2⟩) hpw
 have h8 := layG_8 (w := geoW a b) (l := geoL a) (E := E) (R := R) (T := T) (L := L) (blks ds) 0 x (fun d hd => by have := (hpl d hd).1; omega) (by omega)
 generalize layG (geoW a b) (geoL a) E R T L x 0 (blks ds) = y at he r1 r2 hlow hhd h8
 have hy : (y.length : Int) = geoW a b := by rw [r2]; exact hx
 have htab : tabAt (geoL a) + chunksG (geoW a b) (geoL a) = heapAt (geoW a b) (geoL a) := by unfold heapAt tabAt; omega
 have ht10 : 10 ≤ tabAt (geoL a) := by unfold tabAt; omega
 refine ⟨y, ds, ⟨⟨by rw [hy]; exact hg, r1, ?_, ?_, ?_, hp.ds, by rw [hy]; exact hdl, by omega, hlog⟩, ?_, ?_, ?_⟩, hy, he⟩
 ·have e : y.take 8 = x.take 8 := by
   apply List.ext_getElem?
   intro j
   rw [List.getElem?_take, List.getElem?_take]
   split
   ·exact hlow j (by omega) (by omega)
   ·rfl
  rw [e, hp.head, r2]
 ·intro i hi
  rw [← hp.marks i hi]
  exact wd_eq (hlow _ (by omega) (by omega))
 ·rw [← hp.tab]
  unfold tabL
  rw [r2, hx]
  apply List.ext_getElem?
  intro j
  rw [List.getElem?_drop, List.getElem?_take, List.getElem?_drop, List.getElem?_take]
  split
  ·exact hlow _ (by omega) (by omega)
  ·rfl
 ·rw [← hp.epoch]
  exact wd_eq (hlow 9 (by omega) (by omega))
 ·intro i hi
  have hbi := hb _ (List.getElem_mem hi)
  have ho := oneV_rng h.hL i
  have hty := oneV_rng h.hT i
  have hs := sizeS_rng hbi.2 (n := chunksG (geoW a b) (geoL a)) (by omega) hbi.1 ho
  obtain ⟨q1, q2⟩ := hhd i hi
  rw [Nat.zero_add] at q1 q2
  have w1 : wd y (placeG (y.length : Int) (geoL a) (blks ds)[i]) = hdW T L (blks ds)[i] i := by unfold wd; rw [hy, List.getD_eq_getElem?_getD, q1]; rfl
  have w2 : wd y (placeG (y.length : Int) (geoL a) (blks ds)[i] + 1) = serW E i := by unfold wd; rw [hy, List.getD_eq_getElem?_getD, q2]; rfl
  unfold hdV
  rw [w1, w2]
  unfold hdW
  rw [headT_of (by omega) ⟨hs.1, hs.2.2.1⟩ (by unfold serW; omega)]
  unfold mkH
  simp only [Bool.true_and, hs.2.2.2, beq_self_eq_true]
 ·have h80 : x[8]? = some 0 := by
   have h8l : 8 < x.length := by omega
   have := hp.root
   unfold wd at this
   rw [List.getD_eq_getElem?_getD, show (8 : Int).toNat = 8 from rfl, List.getElem?_eq_getElem h8l] at this
   rw [List.getElem?_eq_getElem h8l]
   exact congrArg some this
  unfold wd
  rw [List.getD_eq_getElem?_getD, show (8 : Int).toNat = 8 from rfl, h8, h80]
  simp only [Int.natCast_zero, Int.zero_add, Int.sub_zero, hy]
  split <;> rfl
section
variable {y : List Int} {l E R : Int} {ds : List Chk} {T L : List Int}
theorem Plt.heads (h : Plt y l ds) : HeadOk y l ∧ lanesOf y = l := by
 have hh : HeadOk y l := ⟨h.geo, h.head⟩
 exact ⟨hh, hh.lanes⟩
theorem Plt.tabc (h : Plt y l ds) : tabC y l = ds := by unfold tabC; rw [h.tab, chV_enc ds h.tbl.ok]
theorem Plt.bs (h : Plt y l ds) : bsV y l = blks ds := by unfold bsV; rw [h.tabc]
theorem Plt.in_ (h : Plt y l ds) : ∀ b ∈ blks ds, BlkIn (chunksG (y.length : Int) l) b ∧ SzOk b := by
 have := h.few
 rw [← h.len]
 exact blk_in ds (by omega) h.tbl.ok h.tbl.right
theorem Plt.marksV (h : Plt y l ds) : marksV y l = true := by
 unfold PS.marksV
 rw [List.all_eq_true]
 intro i hi
 rw [List.mem_range] at hi
 unfold idle
 rw [h.marks i (by omega)]
 decide
theorem Plt.tilesV (h : Plt y l ds) : tilesV y l = true := by
 unfold PS.tilesV rightV
 rw [h.tabc, h.tab, chV_enc ds h.tbl.ok]
 simp only [Bool.true_and, h.tbl.right, List.all_eq_true]
 intro c hc
 have := h.logs c hc
 simpa using this
theorem objV_rise {x : List Int} {l e : Int} (he : wd x 9 = e) : ∀ (bs : List Blk) (S : List Int) (m : Int), (∀ s ∈ S, s < m) → (∀ (i : Nat) (h : i < bs.length), (hdV x l bs[i]).2.2.2 = true ∧ serV x l bs[i] = m + i ∧ serV x l bs[i] / 4294967296 ≤ e) → objV x l S bs = true
 | [], _, _, _, _ => rfl
 | b :: bs, S, m, hS, h => by
  obtain ⟨h1, h2, h3⟩ := h 0 (by simp)
  simp only [List.getElem_cons_zero, Int.natCast_zero, Int.add_zero] at h1 h2 h3
  rw [objV, h1, he, decide_eq_true h3, Bool.true_and, Bool.true_and]
  have hc : S.contains (serV x l b) = false := by
   rw [← Bool.not_eq_true, List.contains_iff_mem]
   intro hm
   have := hS _ hm
   omega
  rw [hc, Bool.not_false, Bool.true_and]
  refine objV_rise he bs _ (m + 1) (fun s hs => ?_) (fun i hi => ?_)
  ·rcases List.mem_append.mp hs with hs | hs
   ·have := hS s hs; omega
   ·rw [List.mem_singleton] at hs; omega
  ·obtain ⟨g1, g2, g3⟩ := h (i + 1) (by simpa using hi)
   simp only [List.getElem_cons_succ] at g1 g2 g3
   exact ⟨g1, by rw [g2]; omega, g3⟩
theorem Stk.ser (h : Stk y l ds T L E R) (i : Nat) (hi : i < (blks ds).length) : serV y l (blks ds)[i] = serW E i := by unfold serV; rw [h.hd i hi]
theorem Plt.few2 (h : Plt y l ds) : (blks ds).length ≤ 600 := by have := blks_len ds; have := h.few; omega
theorem Stk.objsV (h : Stk y l ds T L E R) (hE : 0 ≤ E ∧ E < 4294967296) : objsV y l = true := by
 have hf := h.few2
 unfold PS.objsV
 rw [h.bs, h.epoch, decide_eq_true (by omega), Bool.and_true]
 refine objV_rise h.epoch _ _ (4294967296 * E + 1) (fun s hs => by cases hs) (fun i hi => ⟨by rw [h.hd i hi], ?_, ?_⟩)
 ·rw [h.ser i hi]; unfold serW; omega
 ·rw [h.ser i hi]; unfold serW; omega
theorem Stk.rootV (h : Stk y l ds T L E R) : rootV y l = true := by
 unfold PS.rootV
 rw [h.bs, h.root]
 split
 ·rename_i hr
  rw [Bool.or_eq_true]
  right
  rw [List.any_eq_true]
  exact ⟨(blks ds)[(R - 1).toNat]'(by omega), List.getElem_mem _, by simp⟩
 ·rfl
theorem Stk.sound (h : Stk y l ds T L E R) (hE : 0 ≤ E ∧ E < 4294967296) : soundV y = true := by
 unfold soundV restV
 rw [h.heads.2, decide_eq_true h.heads.1, h.marksV, h.tilesV, h.objsV hE, h.rootV]
 rfl
theorem Stk.objsL (h : Stk y l ds T L E R) (hE : 0 ≤ E ∧ E < 4294967296) : objsL y = (blks ds).map (objOf y l) := by
 unfold PS.objsL
 rw [if_pos (h.sound hE), h.heads.2, h.bs]
theorem wd_set {y : List Int} {p : Nat} {v a : Int} (hp : p < y.length) (ha : 0 ≤ a) : wd (y.set p v) a = if (p : Int) = a then v else wd y a := by
 unfold wd
 rw [List.getD_eq_getElem?_getD, List.getD_eq_getElem?_getD, List.getElem?_set]
 by_cases h : p = a.toNat
 ·rw [if_pos h, if_pos (by omega), if_pos (by omega)]
  rfl
 ·rw [if_neg h, if_neg (by omega)]
theorem Plt.heap (h : Plt y l ds) : 10 + 73 * l + chunksG (y.length : Int) l = heapAt (y.length : Int) l ∧ 1 ≤ l ∧ 1 ≤ chunksG (y.length : Int) l ∧ heapAt (y.length : Int) l + 32 * chunksG (y.length : Int) l ≤ y.length := by
 have h1 := h.geo.l
 have h2 : 1 ≤ chunksG (y.length : Int) l := h.geo
 have h3 := heap9 h.geo
 omega
theorem Plt.place (h : Plt y l ds) {b : Blk} (hb : b ∈ blks ds) : heapAt (y.length : Int) l ≤ placeG (y.length : Int) l b ∧ placeG (y.length : Int) l b + b.f2 ≤ y.length ∧ 4 ≤ b.f2 := by
 have hbi := (h.in_ b hb).1
 have hf := place_fit h.geo hbi
 have h4 := hbi.w0
 have hm := hbi.mul
 have hc := hbi.c0
 exact ⟨by unfold placeG; omega, hf.2, h4⟩
def Loose (y : List Int) (l : Int) (p : Nat) : Prop := p < y.length ∧ (p = 8 ∨ p = 9 ∨ heapAt (y.length : Int) l ≤ p)
theorem Plt.set (h : Plt y l ds) {p : Nat} {v : Int} (hp : Loose y l p) (hv : Wd v) : Plt (y.set p v) l ds := by
 have hh := h.heap
 have hlen : (y.set p v).length = y.length := List.length_set
 refine ⟨by rw [hlen]; exact h.geo, U64_set h.u _ _ hv, ?_, fun i hi => ?_, ?_, h.tbl, by rw [hlen]; exact h.len, h.few, h.logs⟩
 ·rw [hlen, List.take_set_of_le (by have := hp.2; omega)]
  exact h.head
 ·rw [wd_set hp.1 (by omega), if_neg (by have := hp.2; omega)]
  exact h.marks i hi
 ·rw [← h.tab]
  unfold tabL
  rw [hlen]
  have ht : tabAt l + chunksG (y.length : Int) l = heapAt (y.length : Int) l := by unfold heapAt tabAt; omega
  have h10 : 10 ≤ tabAt l := by unfold tabAt; omega
  apply List.ext_getElem?
  intro j
  rw [List.getElem?_drop, List.getElem?_take, List.getElem?_drop, List.getElem?_take]
  split
  ·rw [List.getElem?_set_ne (by have := hp.2; omega)]
  ·rfl
theorem hdV_set {b : Blk} {p : Nat} {v : Int} (hp : p < y.length) (h0 : 0 ≤ placeG (y.length : Int) l b) (h1 : (p : Int) ≠ placeG (y.length : Int) l b) (h2 : (p : Int) ≠ placeG (y.length : Int) l b + 1) : hdV (y.set p v) l b = hdV y l b := by
 unfold hdV
 rw [List.length_set, wd_set hp h0, wd_set hp (by omega), if_neg h1, if_neg h2]
theorem objV_nodup {x : List Int} {l : Int} : ∀ {bs : List Blk} {S : List Int}, objV x l S bs = true → (bs.map (serV x l)).Nodup ∧ (∀ b ∈ bs, serV x l b ∉ S)
 | [], S, _ => ⟨List.nodup_nil, fun b hb => by cases hb⟩
 | b :: bs, S, h => by
  rw [objV] at h
  simp only [Bool.and_eq_true, Bool.not_eq_true'] at h
  obtain ⟨i1, i2⟩ := objV_nodup h.2.2.2
  rw [List.map_cons, List.nodup_cons]
  refine ⟨⟨fun hm => ?_, i1⟩, fun d hd => ?_⟩
  ·rw [List.mem_map] at hm
   obtain ⟨d, hd, e⟩ := hm
   exact i2 d hd (List.mem_append.mpr (.inr (by rw [e]; exact List.mem_singleton.mpr rfl)))
  ·rcases List.mem_cons.mp hd with rfl | hd
   ·intro hm
    rw [← List.contains_iff_mem, h.2.1] at hm
    cases hm
   ·exact fun hm => i2 d hd (List.mem_append.mpr (.inl hm))
theorem objV_epoch {x : List Int} {l : Int} : ∀ {bs : List Blk} {S : List Int}, objV x l S bs = true → ∀ b ∈ bs, (hdV x l b).2.2.2 = true ∧ serV x l b / 4294967296 ≤ wd x 9
 | [], S, _ => fun b hb => by cases hb
 | b :: bs, S, h => by
  rw [objV] at h
  simp only [Bool.and_eq_true, decide_eq_true_eq] at h
  intro d hd
  rcases List.mem_cons.mp hd with rfl | hd
  ·exact ⟨h.1, h.2.2.1⟩
  ·exact objV_epoch h.2.2.2 d hd
theorem Stk.pos (h : Stk y l ds T L E R) (i : Nat) (hi : i < (blks ds).length) : heapAt (y.length : Int) l ≤ placeG (y.length : Int) l (blks ds)[i] ∧ placeG (y.length : Int) l (blks ds)[i] + (blks ds)[i].f2 ≤ y.length ∧ 4 ≤ (blks ds)[i].f2 := h.place (List.getElem_mem hi)
theorem Plt.apart (h : Plt y l ds) {i j : Nat} (h1 : i < (blks ds).length) (h2 : j < (blks ds).length) (hij : i < j) : placeG (y.length : Int) l (blks ds)[i] + (blks ds)[i].f2 ≤ placeG (y.length : Int) l (blks ds)[j] := by
 have := List.pairwise_iff_getElem.mp (blks_apart ds h.tbl.ok h.tbl.right) i j h1 h2 hij
 rw [place_lo, place_lo]
 unfold hi at this
 omega
theorem Stk.late (h : Stk y l ds T L E R) (hE : 0 ≤ E ∧ E < 4294967296) {e : Int} (he : Wd e) : soundV (y.set 9 e) = decide (e ≤ 4294967295 ∧ (blks ds = [] ∨ E ≤ e)) := by
 have hh := h.heap
 have hf := h.few2
 have h9 : 9 < y.length := by omega
 have hp := h.toPlt.set (p := 9) (v := e) ⟨h9, .inr (.inl rfl)⟩ he
 have hw9 : wd (y.set 9 e) 9 = e := by rw [wd_set h9 (by decide), if_pos (by rfl)]
 have hhd : ∀ (i : Nat) (hi : i < (blks ds).length), hdV (y.set 9 e) l (blks ds)[i] = hdV y l (blks ds)[i] := fun i hi => by
  have := h.pos i hi
  exact hdV_set h9 (by omega) (by omega) (by omega)
 have hroot : PS.rootV (y.set 9 e) l = true := by
  have h1 := h.rootV
  unfold PS.rootV at h1 ⊢
  rw [hp.bs]
  rw [h.bs] at h1
  rw [wd_set h9 (by decide), if_neg (by decide), List.length_set]
  exact h1
 unfold soundV restV
 rw [hp.heads.2, decide_eq_true hp.heads.1, hp.marksV, hp.tilesV, hroot]
 simp only [Bool.true_and, Bool.and_true]
 unfold PS.objsV
 rw [hp.bs, hw9]
 have hser : ∀ (i : Nat) (hi : i < (blks ds).length), serV (y.set 9 e) l (blks ds)[i] = serW E i := fun i hi => by
  unfold serV; rw [hhd i hi, h.hd i hi]
 by_cases h1 : e ≤ 4294967295
 ·rw [decide_eq_true h1, Bool.and_true]
  by_cases h2 : blks ds = [] ∨ E ≤ e
  ·rw [decide_eq_true ⟨h1, h2⟩]
   refine objV_rise hw9 _ _ (4294967296 * E + 1) (fun s hs => by cases hs) (fun i hi => ⟨by rw [hhd i hi, h.hd i hi], ?_, ?_⟩)
   ·rw [hser i hi]; unfold serW; omega
   ·rw [hser i hi]
    rcases h2 with h2 | h2
    ·rw [h2] at hi; simp at hi
    ·unfold serW; omega
  ·rw [decide_eq_false (fun hx => h2 hx.2), ← Bool.not_eq_true]
   intro ho
   have hne : 0 < (blks ds).length := List.length_pos_iff.mpr (fun hx => h2 (.inl hx))
   have := (objV_epoch ho _ (List.getElem_mem hne)).2
   rw [hser 0 hne, hw9] at this
   exact h2 (.inr (by unfold serW at this; omega))
 ·rw [decide_eq_false h1, decide_eq_false (fun hx => h1 hx.1), Bool.and_false]
theorem wd_getElem {y : List Int} {a : Int} (h0 : 0 ≤ a) (h : a < y.length) : y[a.toNat]? = some (wd y a) := by
 unfold wd
 rw [List.getD_eq_getElem?_getD, List.getElem?_eq_getElem (by omega)]
 rfl
theorem Stk.word1 (h : Stk y l ds T L E R) (i : Nat) (hi : i < (blks ds).length) : wd y (placeG (y.length : Int) l (blks ds)[i] + 1) = serW E i := by
 have h1 := h.hd i hi
 unfold hdV mkH at h1
 simp only [Prod.mk.injEq, Bool.and_eq_true] at h1
 have h2 := headT_size _ _ h1.2.2.2.1
 rw [← h2.2.2.2.2.2]
 exact h1.2.2.1
theorem Stk.twins (h : Stk y l ds T L E R) (hE : 0 ≤ E ∧ E < 4294967296) {i j : Nat} (hi : i < (blks ds).length) (hj : j < (blks ds).length) :
  soundV (y.set (placeG (y.length : Int) l (blks ds)[i] + 1).toNat (wd y (placeG (y.length : Int) l (blks ds)[j] + 1))) = decide (i = j) := by
 have hh := h.heap
 have hf := h.few2
 have pi := h.pos i hi
 have hpn : (placeG (y.length : Int) l (blks ds)[i] + 1).toNat < y.length := by omega
 rw [h.word1 j hj]
 by_cases hij : i = j
 ·subst hij
  have e : y.set (placeG (y.length : Int) l (blks ds)[i] + 1).toNat (serW E i) = y := by
   apply List.ext_getElem?
   intro n
   rw [List.getElem?_set]
   split
   ·rename_i hn
    rw [← hn, wd_getElem (by omega) (by omega), h.word1 i hi]
   ·rfl
  rw [e, h.sound hE, decide_eq_true rfl]
 ·rw [decide_eq_false hij, ← Bool.not_eq_true]
  intro hs
  have hp := h.toPlt.set (p := (placeG (y.length : Int) l (blks ds)[i] + 1).toNat) (v := serW E j) ⟨hpn, .inr (.inr (by omega))⟩ (by unfold serW; exact ⟨by omega, by omega⟩)
  have hs2 := hs
  unfold soundV restV at hs2
  rw [hp.heads.2] at hs2
  simp only [Bool.and_eq_true] at hs2
  have ho := hs2.2.2.2.1
  unfold PS.objsV at ho
  rw [hp.bs] at ho
  simp only [Bool.and_eq_true] at ho
  have hno := (objV_nodup ho.1).1
  have hoke := (objV_epoch ho.1)
  have s1 : serV (y.set (placeG (y.length : Int) l (blks ds)[i] + 1).toNat (serW E j)) l (blks ds)[i] = serW E j := by
   have h1 := (hoke _ (List.getElem_mem hi)).1
   unfold serV
   unfold hdV mkH at h1 ⊢
   simp only [Bool.and_eq_true] at h1
   have h2 := headT_size _ _ h1.1
   show (headT _ _).2.2.1 = _
   rw [h2.2.2.2.2.2, List.length_set, wd_set hpn (by omega), if_pos (by omega)]
  have s2 : serV (y.set (placeG (y.length : Int) l (blks ds)[i] + 1).toNat (serW E j)) l (blks ds)[j] = serW E j := by
   unfold serV
   have pj := h.pos j hj
   have ha : (placeG (y.length : Int) l (blks ds)[i] + 4 ≤ placeG (y.length : Int) l (blks ds)[j]) ∨ (placeG (y.length : Int) l (blks ds)[j] + 4 ≤ placeG (y.length : Int) l (blks ds)[i]) := by
    rcases Nat.lt_or_gt_of_ne hij with hlt | hlt
    ·have := h.apart hi hj hlt; omega
    ·have := h.apart hj hi hlt; omega
   rw [hdV_set hpn (by omega) (by omega) (by omega), h.hd j hj]
  have hn2 := List.pairwise_iff_getElem.mp hno
  rcases Nat.lt_or_gt_of_ne hij with hlt | hlt
  ·exact hn2 i j (by simpa using hi) (by simpa using hj) hlt (by simp only [List.getElem_map]; rw [s1, s2])
  ·exact hn2 j i (by simpa using hj) (by simpa using hi) hlt (by simp only [List.getElem_map]; rw [s1, s2])
end
end Go.Proofs.YtbbpcbjgekencaaGreatDoor.PS
end
section
set_option linter.unusedVariables false
set_option linter.unusedSimpArgs false
set_option linter.unusedVariables false
set_option linter.unusedSimpArgs false
namespace Go.Proofs.YtbbpcbjgekencaaGreatDoor.PS
open Go Go.Proofs.YtbbpcbjgekencaaGreatDoor.Q Go.Proofs.YtbbpcbjgekencaaGreatDoor.FT Go.Proofs.YtbbpcbjgekencaaGreatDoor.Ev
def Few4 (t T L F : List Int) : Prop := t.length ≤ 20 ∧ T.length ≤ 40 ∧ L.length ≤ 40 ∧ F.length ≤ 40
theorem few_yes (k : Nat) (a b : Int) (t T L : List Int) (E R : Int) (F : List Int) (hf : Few4 t T L F) : r16_Few.f k a b t T L E R F = some true := by
 obtain ⟨h1, h2, h3, h4⟩ := hf
 unfold r16_Few.f
 rw [if_pos (decide_eq_true (by omega)), if_pos (decide_eq_true (by omega)), if_pos (decide_eq_true (by omega)), decide_eq_true (by omega)]
theorem few_no (k : Nat) (a b : Int) (t T L : List Int) (E R : Int) (F : List Int) (hf : ¬ Few4 t T L F) : r16_Few.f k a b t T L E R F = some false := by
 unfold Few4 at hf
 unfold r16_Few.f
 by_cases h1 : t.length ≤ 20
 ·rw [if_pos (decide_eq_true (by omega))]
  by_cases h2 : T.length ≤ 40
  ·rw [if_pos (decide_eq_true (by omega))]
   by_cases h3 : L.length ≤ 40
   ·rw [if_pos (decide_eq_true (by omega)), decide_eq_false (by omega)]
   ·rw [if_neg (by rw [decide_eq_true_eq]; omega)]
  ·rw [if_neg (by rw [decide_eq_true_eq]; omega)]
 ·rw [if_neg (by rw [decide_eq_true_eq]; omega)]
structure StockRng (a b : Int) (t T L : List Int) (E R : Int) (F : List Int) : Prop where
 ha : 0 ≤ a
 hb : 0 ≤ b
 ht : ∀ x ∈ t, 0 ≤ x ∧ x ≤ 65535
 hT : B8 T
 hL : B8 L
 hE : 0 ≤ E ∧ E < 4294967296
 hR : 0 ≤ R ∧ R ≤ 255
 hF : U64 F
theorem StockRng.args {a b : Int} {t T L : List Int} {E R : Int} {F : List Int} (h : StockRng a b t T L E R F) (hf : Few4 t T L F) : StockArgs a b t T L E R F := by
 obtain ⟨h1, h2, h3, h4⟩ := hf
 exact ⟨h.ha, h.hb, h.ht, by omega, h.hT, by omega, h.hL, by omega, h.hE, h.hR, h.hF, by omega⟩
section
variable {a b : Int} {t T L : List Int} {E R : Int} {F : List Int}
noncomputable def twinsC (k : Nat) (y : List Int) (os : List Obj) (a1 a2 : Int) : Option Bool :=
 (if decide ((os.length : Int) < 2) = true then (some true) else (if (os.length : Int) = 0 then none else (if (os.length : Int) = 0 then none else (if 0 ≤ (IntKind.i64.wrap a1).tmod (os.length : Int) then (if (IntKind.i64.wrap a1).tmod (os.length : Int) < (os.length : Int) then (if ((IntKind.i64.wrap a1).tmod (os.length : Int)).toNat < os.length then (if 0 ≤ (IntKind.i64.wrap a2).tmod (os.length : Int) then (if (IntKind.i64.wrap a2).tmod (os.length : Int) < (os.length : Int) then (if ((IntKind.i64.wrap a2).tmod (os.length : Int)).toNat < os.length then (if 0 ≤ IntKind.i64.wrap ((os.getD ((IntKind.i64.wrap a2).tmod (os.length : Int)).toNat z64).f0.f0 + 1) then (if IntKind.i64.wrap ((os.getD ((IntKind.i64.wrap a2).tmod (os.length : Int)).toNat z64).f0.f0 + 1) < (y.length : Int) then (if (IntKind.i64.wrap ((os.getD ((IntKind.i64.wrap a2).tmod (os.length : Int)).toNat z64).f0.f0 + 1)).toNat < y.length then (if 0 ≤ IntKind.i64.wrap ((os.getD ((IntKind.i64.wrap a1).tmod (os.length : Int)).toNat z64).f0.f0 + 1) then (if IntKind.i64.wrap ((os.getD ((IntKind.i64.wrap a1).tmod (os.length : Int)).toNat z64).f0.f0 + 1) < (y.length : Int) then (if (IntKind.i64.wrap ((os.getD ((IntKind.i64.wrap a1).tmod (os.length : Int)).toNat z64).f0.f0 + 1)).toNat < y.length then ((sound_Sound.f k (y.set (IntKind.i64.wrap ((os.getD ((IntKind.i64.wrap a1).tmod (os.length : Int)).toNat z64).f0.f0 + 1)).toNat (y.getD (IntKind.i64.wrap ((os.getD ((IntKind.i64.wrap a2).tmod (os.length : Int)).toNat z64).f0.f0 + 1)).toNat 0))).bind fun y5 => (some ((y5 == 0) == ((IntKind.i64.wrap a1).tmod (os.length : Int) == (IntKind.i64.wrap a2).tmod (os.length : Int))))) else none) else none) else none) else none) else none) else none) else none) else none) else none) else none) else none) else none))))
theorem twins_c {y : List Int} {l : Int} {ds : List Chk} (h : Stk y l ds T L E R) (hE : 0 ≤ E ∧ E < 4294967296) (hlen : y.length ≤ 1048576) {a1 a2 : Int} (h1 : 0 ≤ a1 ∧ a1 ≤ 255) (h2 : 0 ≤ a2 ∧ a2 ≤ 255) : Evt (fun k => twinsC k y (objsL y) a1 a2) true := by
 rw [h.objsL hE]
 have hll : ((blks ds).map (objOf y l)).length = (blks ds).length := List.length_map ..
 by_cases hn : (blks ds).length < 2
 ·exact Evt.of fun k => by unfold twinsC; rw [hll, if_pos (decide_eq_true (by omega))]
 ·obtain ⟨n1, hn1⟩ : ∃ n : Nat, a1 = n := ⟨a1.toNat, by omega⟩
  obtain ⟨n2, hn2⟩ : ∃ n : Nat, a2 = n := ⟨a2.toNat, by omega⟩
  have hf := h.few2
  have hi : n1 % (blks ds).length < (blks ds).length := Nat.mod_lt _ (by omega)
  have hj : n2 % (blks ds).length < (blks ds).length := Nat.mod_lt _ (by omega)
  have t1 : (IntKind.i64.wrap a1).tmod ((blks ds).length : Int) = ((n1 % (blks ds).length : Nat) : Int) := by rw [i64w (by omega) (by omega), hn1, Int.tmod_eq_emod_of_nonneg (by omega)]; norm_cast
  have t2 : (IntKind.i64.wrap a2).tmod ((blks ds).length : Int) = ((n2 % (blks ds).length : Nat) : Int) := by rw [i64w (by omega) (by omega), hn2, Int.tmod_eq_emod_of_nonneg (by omega)]; norm_cast
  generalize n1 % (blks ds).length = i at hi t1
  generalize n2 % (blks ds).length = j at hj t2
  have g : ∀ (i : Nat) (hi : i < (blks ds).length), ((blks ds).map (objOf y l)).getD (i : Int).toNat z64 = objOf y l (blks ds)[i] := fun i hi => by
   rw [gd _ i _ (by rw [hll]; exact hi), List.getElem_map]
  have hp := h.heap
  have pi := h.pos i hi
  have pj := h.pos j hj
  have hs := sound_eq (x := y.set (placeG (y.length : Int) l (blks ds)[i] + 1).toNat (wd y (placeG (y.length : Int) l (blks ds)[j] + 1))) (U64_set h.u _ _ (wd_Wd y h.u _)) (by rw [List.length_set]; exact hlen)
  unfold errV at hs
  rw [h.twins hE hi hj] at hs
  refine Evt.congr (f := fun k => (sound_Sound.f k (y.set (placeG (y.length : Int) l (blks ds)[i] + 1).toNat (wd y (placeG (y.length : Int) l (blks ds)[j] + 1)))).bind fun y5 => some ((y5 == 0) == ((i : Int) == (j : Int)))) ?_ (fun k => ?_)
  ·refine Evt.bind hs ?_
   refine (Evt.some _).eq ?_
   by_cases hij : i = j
   ·subst hij; simp
   ·have hij2 : ((i : Int) == (j : Int)) = false := by simp; omega
    rw [decide_eq_false hij, hij2]
    rfl
  ·have o1 : (objOf y l (blks ds)[i]).f0.f0 = placeG (y.length : Int) l (blks ds)[i] := rfl
   have o2 : (objOf y l (blks ds)[j]).f0.f0 = placeG (y.length : Int) l (blks ds)[j] := rfl
   unfold twinsC
   rw [hll, t1, t2, g i hi, g j hj, o1, o2, i64w (x := placeG (y.length : Int) l (blks ds)[i] + 1) (by omega) (by omega), i64w (x := placeG (y.length : Int) l (blks ds)[j] + 1) (by omega) (by omega)]
   rw [if_neg (by rw [decide_eq_true_eq]; omega), if_neg (by omega), if_neg (by omega), if_pos (by omega), if_pos (by omega), if_pos (by omega), if_pos (by omega), if_pos (by omega), if_pos (by omega), if_pos (by omega), if_pos (by omega), if_pos (by omega), if_pos (by omega), if_pos (by omega), if_pos (by omega)]
   rfl
theorem soundTwins_ev (h : StockRng a b t T L E R F) {a1 a2 e : Int} (h1 : 0 ≤ a1 ∧ a1 ≤ 255) (h2 : 0 ≤ a2 ∧ a2 ≤ 255) (he : Wd e) : Evt (fun k => l16_SoundTwins.f k a b t T L E R F a1 a2 e) true := by
 unfold l16_SoundTwins.f
 refine Evt.bind (Evt.at 700 awake_k) ?_
 by_cases hf : Few4 t T L F
 ·refine Evt.bind (Evt.of fun k => few_yes k a b t T L E R F hf) ?_
  obtain ⟨y, ds, hs, hy, hev⟩ := stocked_stk (h.args hf)
  obtain ⟨hg, hn, hw, hw0⟩ := geoW_rng a b
  have hE := h.hE
  have hlen : y.length ≤ 1048576 := by omega
  have hos : (objsL y).length = (blks ds).length := by rw [hs.objsL hE, List.length_map]
  have hf2 := hs.few2
  have hheap := hs.heap
  refine Evt.congr (f := fun k => (r16_Stocked.f k a b t T L E R F).bind fun y2 => (sound_Objects.f k y2).bind fun y3 => if 0 + y2.length ≤ big then if 9 < (([] ++ y2).length : Int) then if Int.toNat 9 < ([] ++ y2).length then (sound_Sound.f k (([] ++ y2).set (Int.toNat 9) e)).bind fun y4 => (if decide (e ≤ 4294967295) = true then (if ((y3.length : Int) == 0) = false then (if (!(y4 == 0) == decide (e ≥ IntKind.u64.wrap E)) = true then (some false) else twinsC k y2 y3 a1 a2) else (if (!(y4 == 0) == true) = true then (some false) else twinsC k y2 y3 a1 a2)) else (if (!(y4 == 0) == false) = true then (some false) else twinsC k y2 y3 a1 a2)) else none else none else none) ?_ (fun k => by
   rw [if_neg (by decide)]
   rfl)
  refine Evt.bind hev ?_
  refine Evt.bind (objects_eqL hs.u hlen) ?_
  have h9 := sound_eq (x := y.set 9 e) (U64_set hs.u _ _ he) (by rw [List.length_set]; exact hlen)
  unfold errV at h9
  rw [hs.late hE he] at h9
  refine Evt.congr (f := fun k => (sound_Sound.f k (y.set 9 e)).bind fun y4 => (if decide (e ≤ 4294967295) = true then (if (((objsL y).length : Int) == 0) = false then (if (!(y4 == 0) == decide (e ≥ IntKind.u64.wrap E)) = true then (some false) else twinsC k y (objsL y) a1 a2) else (if (!(y4 == 0) == true) = true then (some false) else twinsC k y (objsL y) a1 a2)) else (if (!(y4 == 0) == false) = true then (some false) else twinsC k y (objsL y) a1 a2))) ?_ (fun k => by
   rw [List.nil_append, if_pos (by unfold big; omega), if_pos (by omega), if_pos (by show 9 < y.length; omega)]
   rfl)
  refine Evt.bind h9 ?_
  refine Evt.congr (twins_c hs hE hlen h1 h2) (fun k => ?_)
  rw [u64w (x := E) (by omega) (by omega), hos]
  by_cases he1 : e ≤ 4294967295
  ·rw [if_pos (decide_eq_true he1)]
   by_cases hb0 : (blks ds).length = 0
   ·rw [if_neg (by simp; exact List.length_eq_zero_iff.mp hb0), decide_eq_true ⟨he1, .inl (List.length_eq_zero_iff.mp hb0)⟩, if_neg (by decide)]
   ·have hb1 : blks ds ≠ [] := fun hx => hb0 (by rw [hx]; rfl)
    rw [if_pos (by simp; exact hb1)]
    by_cases hEe : E ≤ e
    ·rw [decide_eq_true ⟨he1, .inr hEe⟩, decide_eq_true (show e ≥ E from hEe), if_neg (by decide)]
    ·rw [decide_eq_false (fun hx => hx.2.elim hb1 hEe), decide_eq_false (show ¬ e ≥ E from hEe), if_neg (by decide)]
  ·rw [if_neg (by simpa using he1), decide_eq_false (fun hx => he1 hx.1), if_neg (by decide)]
 ·refine Evt.bind (Evt.of fun k => few_no k a b t T L E R F hf) ?_
  exact Evt.of fun k => by rw [if_pos (by decide)]
end
end Go.Proofs.YtbbpcbjgekencaaGreatDoor.PS
end
section
set_option linter.unusedVariables false
set_option linter.unusedSimpArgs false
namespace Go.Proofs.YtbbpcbjgekencaaGreatDoor.Opens
open Go.RowKit Go.ChangeShapes Go.WideShapes Go.Deep Go.Proofs.YtbbpcbjgekencaaGreatDoorW.PrintWords
def Opens (P : Program) (t : TypeId) {α : Type} (d : Kd α) (wf : α → Prop) : Prop :=
 ∀ {H : Type} (enc : TypeId × Value → H) (w : World) (base : Nat) (spare : Nat → Bool) (held : Bool) (fuel : Nat) (cs : List Value) (x : DataW H × List MemPlace),
  DataW.trod enc P w base spare held fuel t cs = some x → ∃ a : α, d.K w a cs ∧ wf a
theorem opens_int {P : Program} {t : TypeId} {k : IntKind} (ht : P.underlying t = some (.int k)) : Opens P t (Kd.int k) (fun n => (Lit.int k n).wf = true) := by
 intro H enc w base spare held fuel cs x h
 obtain ⟨n, rfl, _, hw⟩ := DataW.trod_int ht h
 exact ⟨n, rfl, hw⟩
theorem list_of_range {α : Type} (p : Nat → α → Prop) : ∀ n, (∀ i, i < n → ∃ a, p i a) → ∃ xs : List α, xs.length = n ∧ ∀ i a, xs[i]? = some a → p i a
 | 0, _ => ⟨[], rfl, fun i a h => by simp at h⟩
 | n + 1, h => by
  obtain ⟨xs, hl, hx⟩ := list_of_range p n (fun i hi => h i (by omega))
  obtain ⟨a, ha⟩ := h n (by omega)
  refine ⟨xs ++ [a], by simp [hl], fun i b hb => ?_⟩
  rcases Nat.lt_or_ge i xs.length with hi | hi
  ·rw [List.getElem?_append_left hi] at hb; exact hx i b hb
  ·rw [List.getElem?_append_right hi] at hb
   have : i = n := by
    have := (List.getElem?_eq_some_iff.1 hb).1
    simp at this; omega
   subst this
   rw [hl, Nat.sub_self] at hb
   injection hb with hb
   subst hb
   exact ha
theorem opens_slice {P : Program} {t e : TypeId} {α : Type} {d : Kd α} {wf : α → Prop} (ht : P.underlying t = some (.slice e)) (he : Opens P e d wf) (hsz : P.cellsOf e = d.sz) :
  Opens P t (Kd.slice e d) (fun xs => xs.length ≤ maxLen ∧ ∀ x ∈ xs, wf x) := by
 intro H enc w base spare held fuel cs x h
 rcases open_slice ht h with ⟨rfl, _⟩ | ⟨a, len, cap, m, n, D, Pl, rfl, _, hl, hm, hmm, _, hi⟩
 ·exact ⟨[], ⟨none, 0, rfl, Nat.le_refl _, rfl, Nat.zero_le _, fun h => absurd h (Nat.lt_irrefl 0)⟩, Nat.zero_le _, fun x hx => absurd hx List.not_mem_nil⟩
 ·have hlm : len ≤ m := by rw [hmm]; split <;> omega
  obtain ⟨xs, hxl, hx⟩ := list_of_range (fun i (b : α) => ∃ c, c.length = d.sz ∧ d.K w b c ∧ (∀ j u, c[j]? = some u → w.cell? (a.add (i * d.sz + j)) = some u) ∧ wf b) len (fun i hil => by
   obtain ⟨cs', hc, ht'⟩ := hi i (by omega)
   obtain ⟨b, hK, hw⟩ := he enc w base spare held n cs' _ ht'
   obtain ⟨_, hcl, hat⟩ := World.cells?_some hc
   refine ⟨b, cs', d.K_len hK, hK, fun j u hu => ?_, hw⟩
   have hj := (List.getElem?_eq_some_iff.1 hu).1
   have := hat j (by omega)
   rw [← hsz, ← Go.Deep.add_add, this]
   exact hu)
  refine ⟨xs, ⟨some a, cap, by rw [hxl], by omega, rfl, by unfold maxLen at hm; omega, fun _ => ⟨a, rfl, fun j p hj => ?_⟩⟩, by omega, fun b hb => ?_⟩
  ·obtain ⟨c, h1, h2, h3, _⟩ := hx j p hj
   exact ⟨c, h1, h2, h3⟩
  ·obtain ⟨i, hi', e⟩ := List.mem_iff_getElem.1 hb
   obtain ⟨_, _, _, _, hw⟩ := hx i b (by rw [List.getElem?_eq_getElem hi', e])
   exact hw
def OpensF (P : Program) : List Field → Nat → {α : Type} → Kd α → (α → Prop) → Prop := fun fs off α d wf =>
 ∀ {H : Type} (enc : TypeId × Value → H) (w : World) (base : Nat) (spare : Nat → Bool) (held : Bool) (n : Nat) (cs : List Value),
  cs.length = d.sz → (∀ (i : Nat) (f : Field), fs[i]? = some f → ∃ y, DataW.trod enc P w base spare held n f.type ((cs.drop (f.offset - off)).take (P.cellsOf f.type)) = some y) → ∃ a : α, d.K w a cs ∧ wf a
theorem opensF_last {P : Program} {f : Field} {off : Nat} {α : Type} {d : Kd α} {wf : α → Prop} (hf : Opens P f.type d wf) (ho : f.offset = off) (hsz : P.cellsOf f.type = d.sz) : OpensF P [f] off d wf := by
 intro H enc w base spare held n cs hl h
 obtain ⟨y, hy⟩ := h 0 f rfl
 rw [ho, Nat.sub_self, List.drop_zero, hsz, ← hl, List.take_length] at hy
 exact hf enc w base spare held n cs y hy
theorem opensF_cons {P : Program} {f : Field} {fs : List Field} {off : Nat} {α β : Type} {d : Kd α} {d' : Kd β} {wf : α → Prop} {wf' : β → Prop} (hf : Opens P f.type d wf) (ho : f.offset = off) (hsz : P.cellsOf f.type = d.sz)
  (hr : OpensF P fs (off + d.sz) d' wf') (hge0 : (fs.all fun g => decide (off + d.sz ≤ g.offset)) = true) : OpensF P (f :: fs) off (Kd.pair d d') (fun p => wf p.1 ∧ wf' p.2) := by
 have hge : ∀ g ∈ fs, off + d.sz ≤ g.offset := fun g hg => of_decide_eq_true (List.all_eq_true.1 hge0 g hg)
 intro H enc w base spare held n cs hl h
 have hl' : cs.length = d.sz + d'.sz := hl
 obtain ⟨y, hy⟩ := h 0 f rfl
 rw [ho, Nat.sub_self, List.drop_zero, hsz] at hy
 obtain ⟨a, ha, hwa⟩ := hf enc w base spare held n _ y hy
 obtain ⟨b, hb, hwb⟩ := hr enc w base spare held n (cs.drop d.sz) (by rw [List.length_drop]; omega) (fun i g hg => by
  obtain ⟨z, hz⟩ := h (i + 1) g (by simpa using hg)
  refine ⟨z, ?_⟩
  have hgm := hge g (List.mem_of_getElem? hg)
  rw [List.drop_drop, show d.sz + (g.offset - (off + d.sz)) = g.offset - off by omega]
  exact hz)
 exact ⟨(a, b), ⟨cs.take d.sz, cs.drop d.sz, (List.take_append_drop _ _).symm, ha, hb⟩, hwa, hwb⟩
theorem opens_struct {P : Program} {t : TypeId} {fs : List Field} {α β : Type} {d : Kd β} {wf : β → Prop} (f : α → β) (g : β → α) (hfg : ∀ b, f (g b) = b) (ht : P.underlying t = some (.struct fs.toArray)) (hs : P.cellsOf t = d.sz) (h : OpensF P fs 0 d wf) :
  Opens P t (Kd.iso d f) (fun x => wf (f x)) := by
 intro H enc w base spare held fuel cs x hx
 obtain ⟨xs, n, _, _, hl, hxl, hf⟩ := DataW.trod_struct ht hx
 obtain ⟨b, hb, hw⟩ := h enc w base spare held n cs (by omega) (fun i q hq => by
  have h1 := hf i q (by simpa using hq)
  have hlt : i < xs.length := by
   rw [hxl]
   have := (List.getElem?_eq_some_iff.1 hq).1
   simpa using this
  rw [List.getElem?_eq_getElem hlt] at h1
  rw [Nat.sub_zero]
  exact ⟨_, h1⟩)
 refine ⟨g b, ?_, ?_⟩
 ·show d.K w (f (g b)) cs
  rw [hfg]; exact hb
 ·show wf (f (g b))
  rw [hfg]; exact hw
end Go.Proofs.YtbbpcbjgekencaaGreatDoor.Opens
end
section
set_option linter.unusedVariables false
set_option linter.unusedSimpArgs false
namespace Go.Proofs.YtbbpcbjgekencaaGreatDoor.Q
open Go.RowKit Go.Proofs.YtbbpcbjgekencaaGreatDoorW.PrintWords Go.Proofs.YtbbpcbjgekencaaGreatDoor.Opens
structure S27 where
 f0 : Int
 f1 : Int
 f2 : (List Int)
 f3 : (List Int)
 f4 : (List Int)
 f5 : Int
 f6 : Int
 f7 : (List Int)
def k27 : Kd S27 := Kd.iso (Kd.pair (Kd.int .u8) (Kd.pair (Kd.int .u8) (Kd.pair (Kd.slice 32 (Kd.int .u16)) (Kd.pair (Kd.slice 5 (Kd.int .u8)) (Kd.pair (Kd.slice 5 (Kd.int .u8)) (Kd.pair (Kd.int .u32) (Kd.pair (Kd.int .u8) (Kd.slice 33 (Kd.int .u64))))))))) (fun x : S27 => (x.f0, x.f1, x.f2, x.f3, x.f4, x.f5, x.f6, x.f7))
theorem k27_open {w : World} {x : S27} {cs : List Value} (h : k27.K w x cs) : ∃ A2 c2 A3 c3 A4 c4 A7 c7, cs = [.int .u8 x.f0, .int .u8 x.f1, .slice A2 x.f2.length c2, .slice A3 x.f3.length c3, .slice A4 x.f4.length c4, .int .u32 x.f5, .int .u8 x.f6, .slice A7 x.f7.length c7] ∧ x.f2.length ≤ c2 ∧ (Kd.int .u16).C w A2 x.f2.length x.f2 ∧ x.f3.length ≤ c3 ∧ (Kd.int .u8).C w A3 x.f3.length x.f3 ∧ x.f4.length ≤ c4 ∧ (Kd.int .u8).C w A4 x.f4.length x.f4 ∧ x.f7.length ≤ c7 ∧ (Kd.int .u64).C w A7 x.f7.length x.f7 := by
 obtain ⟨_, _, rfl, rfl, ⟨_, _, rfl, rfl, ⟨_, _, rfl, ⟨A2, c2, rfl, l2, g2⟩, ⟨_, _, rfl, ⟨A3, c3, rfl, l3, g3⟩, ⟨_, _, rfl, ⟨A4, c4, rfl, l4, g4⟩, ⟨_, _, rfl, rfl, ⟨_, _, rfl, rfl, ⟨A7, c7, rfl, l7, g7⟩⟩⟩⟩⟩⟩⟩⟩ := h
 exact ⟨A2, c2, A3, c3, A4, c4, A7, c7, rfl, l2, g2, l3, g3, l4, g4, l7, g7⟩
def wf27 (x : S27) : Prop := ((Lit.int .u8 x.f0).wf = true) ∧ ((Lit.int .u8 x.f1).wf = true) ∧ ((x.f2.length ≤ maxLen ∧ ∀ x_ ∈ x.f2, (Lit.int .u16 x_).wf = true)) ∧ ((x.f3.length ≤ maxLen ∧ ∀ x_ ∈ x.f3, (Lit.int .u8 x_).wf = true)) ∧ ((x.f4.length ≤ maxLen ∧ ∀ x_ ∈ x.f4, (Lit.int .u8 x_).wf = true)) ∧ ((Lit.int .u32 x.f5).wf = true) ∧ ((Lit.int .u8 x.f6).wf = true) ∧ ((x.f7.length ≤ maxLen ∧ ∀ x_ ∈ x.f7, (Lit.int .u64 x_).wf = true))
theorem op27 : Opens Tryz.prog 27 k27 wf27 := opens_struct (fun x : S27 => (x.f0, x.f1, x.f2, x.f3, x.f4, x.f5, x.f6, x.f7)) (fun b => ⟨b.1, b.2.1, b.2.2.1, b.2.2.2.1, b.2.2.2.2.1, b.2.2.2.2.2.1, b.2.2.2.2.2.2.1, b.2.2.2.2.2.2.2⟩) (fun _ => rfl) Tryz.underlying27 (by kernel_rfl) (opensF_cons (opens_int (k := .u8) Tryz.underlying5) rfl (by kernel_rfl) (opensF_cons (opens_int (k := .u8) Tryz.underlying5) rfl (by kernel_rfl) (opensF_cons (opens_slice Tryz.underlying22 (opens_int (k := .u16) Tryz.underlying32) (by kernel_rfl)) rfl (by kernel_rfl) (opensF_cons (opens_slice Tryz.underlying23 (opens_int (k := .u8) Tryz.underlying5) (by kernel_rfl)) rfl (by kernel_rfl) (opensF_cons (opens_slice Tryz.underlying23 (opens_int (k := .u8) Tryz.underlying5) (by kernel_rfl)) rfl (by kernel_rfl) (opensF_cons (opens_int (k := .u32) Tryz.underlying24) rfl (by kernel_rfl) (opensF_cons (opens_int (k := .u8) Tryz.underlying5) rfl (by kernel_rfl) (opensF_last (opens_slice Tryz.underlying25 (opens_int (k := .u64) Tryz.underlying33) (by kernel_rfl)) rfl (by kernel_rfl)) (by decide)) (by decide)) (by decide)) (by decide)) (by decide)) (by decide)) (by decide))
end Go.Proofs.YtbbpcbjgekencaaGreatDoor.Q
end
section
set_option linter.unusedVariables false
set_option linter.unusedSimpArgs false
namespace Go.Proofs.YtbbpcbjgekencaaGreatDoor.Pure
open Go Go.RowKit Go.Proofs.YtbbpcbjgekencaaGreatDoor.Q Go.Proofs.YtbbpcbjgekencaaGreatDoorW.PrintWords Go.Proofs.YtbbpcbjgekencaaGreatDoor Go.Proofs.YtbbpcbjgekencaaGreatDoor.PS
theorem SoundTwins : ∀ (a0 : S27) (a1 : Int) (a2 : Int) (a3 : Int), wf27 a0 → (Lit.int .u8 a1).wf = true → (Lit.int .u8 a2).wf = true → (Lit.int .u64 a3).wf = true → ∃ k, H.l16_SoundTwins.f k a0.f0 a0.f1 a0.f2 a0.f3 a0.f4 a0.f5 a0.f6 a0.f7 a1 a2 a3 = some true := by
 intro a0 a1 a2 a3 h h1 h2 h3
 obtain ⟨i0, i1, ⟨_, i2⟩, ⟨_, i3⟩, ⟨_, i4⟩, i5, i6, ⟨_, i7⟩⟩ := h
 obtain ⟨K, hK⟩ := soundTwins_ev ⟨(wu8 i0).1, (wu8 i1).1, fun x hx => wu16 (i2 x hx), fun x hx => wu8 (i3 x hx), fun x hx => wu8 (i4 x hx), wu32 i5, wu8 i6, fun x hx => wuu64 (i7 x hx)⟩ (wu8 h1) (wu8 h2) (wuu64 h3)
 exact ⟨K, hK K (Nat.le_refl _)⟩
end Go.Proofs.YtbbpcbjgekencaaGreatDoor.Pure
end
section
set_option linter.unusedVariables false
set_option linter.unusedSimpArgs false
namespace Go.Proofs.YtbbpcbjgekencaaGreatDoor.Q
open Go.RowKit Go.Proofs.YtbbpcbjgekencaaGreatDoorW.PrintWords Go.Proofs.YtbbpcbjgekencaaGreatDoorW.PrintLast Go.Proofs.YtbbpcbjgekencaaGreatDoorW.PrintMore
attribute [local go_sem] max2_int min2_int max_two min_two max_three min_three max_four min_four   -- for this text's walks alone
set_option linter.unusedVariables false
set_option linter.unusedSimpArgs false
def Gl (w : World) : Prop := w.cell? ⟨0, 0, none⟩ = some (.int .i64 4) ∧ w.cell? ⟨0, 1, none⟩ = some (.int .i64 8) ∧ w.cell? ⟨0, 2, none⟩ = some (.int .i64 16)
theorem Gl.below {w W : World} (h : Gl w) (hb : Below w.heap.size w W) : Gl W := ⟨pw_cell_below hb h.1, pw_cell_below hb h.2.1, pw_cell_below hb h.2.2⟩
theorem Gl.drewN {w : World} (h : Gl w) (n : Nat) : Gl (w.drewN n) := h
theorem Gl.drew {w : World} (h : Gl w) : Gl w.drew := h
theorem Gl.alloc {w : World} (h : Gl w) (o : Obj) : Gl (w.alloc o) := h.below ((Below.refl _ w).alloc (Nat.le_refl _) o)
def CallsG (n : Nat) (args : Array Value) (w : World) (R : Ending → World → Prop) : Prop := Gl w → Calls Tryz.prog n args w R
theorem CallsG.mono {n : Nat} {args : Array Value} {w : World} {R R' : Ending → World → Prop} (h : CallsG n args w R) (k : ∀ e w', R e w' → R' e w')
  (hG : Gl w := by first | exact HG.out | exact Gl.drewN HG.out _ | exact Gl.below HG.out HB.out | exact Gl.below HG.out (by repeat (first | exact HB.out | exact Below.refl _ _ | apply below_alloc | apply pw_below_drewN | apply below_drew1 | refine below_set ?_ (Aside0.out (by assumption)))) | (repeat (first | exact HG.out | apply Gl.drewN | apply Gl.drew | apply Gl.alloc))) : Calls Tryz.prog n args w R' := (h hG).mono k
end Go.Proofs.YtbbpcbjgekencaaGreatDoor.Q
end
section
set_option linter.unusedVariables false
set_option linter.unusedSimpArgs false
namespace Go.Proofs.YtbbpcbjgekencaaGreatDoor.Laid
open Go.ChangeShapes Go.WideShapes Go.RowKit Go.Proofs.YtbbpcbjgekencaaGreatDoor.Q
abbrev rows {H : Type} : List (String × DataW H) := [("lockfast/class.blocks", Rows.laid_lockfast_class_blocks)]
theorem named : Tryz.prog.globalNamed "lockfast/class.blocks" = some 0 := by kernel_rfl
theorem typed : (Tryz.prog.globals[0]?).map (·.type) = some 159 := by kernel_rfl
theorem cellsT : Tryz.prog.cellsOf 159 = 3 := by kernel_rfl
theorem cellsE : Tryz.prog.cellsOf 3 = 1 := by kernel_rfl
theorem int_of_trod {H : Type} {enc : TypeId × Value → H} {P : Program} {w : World} {base : Nat} {sp : Nat → Bool} {held : Bool} {fuel : Nat} {t : TypeId} {k : IntKind} {c : Value} {y : DataW H × List MemPlace}
  (ht : P.underlying t = some (.int k)) (h : DataW.trod enc P w base sp held fuel t [c] = some y) : ∃ n, c = .int k n ∧ y = (.lit (.int k n), []) := by
 cases fuel with
 | zero => simp [DataW.trod] at h
 | succ fuel =>
  cases c <;> simp [DataW.trod, ht] at h
  rename_i k' n
  obtain ⟨⟨rfl, _⟩, rfl⟩ := h
  exact ⟨n, rfl, rfl⟩
def cells3 : Array Value := #[.int .i64 4, .int .i64 8, .int .i64 16]
theorem cells_of_laid {W : World} (h : laidMet Tryz.prog rows W) : W.var? Tryz.prog "lockfast/class.blocks" = some cells3 := by
 obtain ⟨ps, ⟨g, t, cs, fuel, p, q, hg, ht, hvar, hd, _, _⟩, _⟩ := h
 obtain rfl := Option.some.inj (named.symm.trans hg)
 obtain rfl := Option.some.inj (typed.symm.trans ht)
 rw [hvar]
 congr 1
 obtain ⟨l⟩ := cs
 cases fuel with
 | zero => simp [DataW.trod] at hd
 | succ fuel =>
  simp only [DataW.trod, Tryz.underlying159, cellsT, cellsE] at hd
  split at hd
  ·rename_i hl
   obtain ⟨c0, c1, c2, rfl⟩ : ∃ c0 c1 c2, l = [c0, c1, c2] := by
    match l, hl with
    | [a, b, c], _ => exact ⟨a, b, c, rfl⟩
   have e : List.range 3 = [0, 1, 2] := rfl
   rw [e] at hd
   simp only [Option.map_eq_some_iff, List.mapM_cons, List.mapM_nil, Option.bind_eq_bind, Option.bind_eq_some_iff, Option.pure_def, Option.some.injEq] at hd
   obtain ⟨xs, ⟨y0, h0, _, ⟨y1, h1, _, ⟨y2, h2, _, rfl, rfl⟩, rfl⟩, rfl⟩, hx⟩ := hd
   obtain ⟨n0, rfl, rfl⟩ := int_of_trod Tryz.underlying3 h0
   obtain ⟨n1, rfl, rfl⟩ := int_of_trod Tryz.underlying3 h1
   obtain ⟨n2, rfl, rfl⟩ := int_of_trod Tryz.underlying3 h2
   simp [Rows.laid_lockfast_class_blocks] at hx
   obtain ⟨⟨rfl, rfl, rfl⟩, _⟩ := hx
   rfl
  ·cases hd
theorem gl {W : World} (h : laidMet Tryz.prog rows W) : Gl W := by
 have hv := cells_of_laid h
 refine ⟨?_, ?_, ?_⟩
 ·simpa [cells3] using World.var?_cell named hv 0
 ·simpa [cells3] using World.var?_cell named hv 1
 ·simpa [cells3] using World.var?_cell named hv 2
noncomputable def laidWorld (os : Os) : World :=
 { World.holding Tryz.prog os ⟨#[], #[], []⟩ with heap := (World.holding Tryz.prog os ⟨#[], #[], []⟩).heap.modify 0 fun
   | .cells _ t frozen => .cells cells3 t frozen
   | o => o }
theorem laidWorld_row (os : Os) (args : Array Value) : ((laidWorld os).forCall (fun _ _ => 0) ⟨#[], args, []⟩).memory.heap[0]? = some (.cells cells3 159 (0, 0)) := by kernel_rfl
set_option maxRecDepth 100000 in
theorem laidWorld_met (os : Os) (args : Array Value) : laidMet Tryz.prog rows ((laidWorld os).forCall (fun _ _ => 0) ⟨#[], args, []⟩).memory := by
 refine ⟨_, ⟨0, 159, cells3, 8, [], [], by kernel_rfl, by kernel_rfl, by kernel_rfl, by kernel_rfl, rfl, rfl⟩, by decide, fun b off h => ?_⟩
 have h' : MemPlace.cell b off ∈ [MemPlace.cell 0 0, .cell 0 1, .cell 0 2] := h
 have hb : b = 0 := by
  simp at h'
  omega
 subst hb
 refine ⟨⟨_, _, laidWorld_row os args⟩, fun u v hc => ?_⟩
 simp only [World.cell?, laidWorld_row os args] at hc
 simp at h'
 rcases h' with rfl | rfl | rfl <;> simp [cells3] at hc
end Go.Proofs.YtbbpcbjgekencaaGreatDoor.Laid
end
