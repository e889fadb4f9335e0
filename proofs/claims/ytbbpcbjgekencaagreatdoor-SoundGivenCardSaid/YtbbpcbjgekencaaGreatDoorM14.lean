import Derived.Test.YtbbpcbjgekencaaGreatDoorM13
section
set_option linter.unusedVariables false
set_option linter.unusedSimpArgs false
set_option linter.unusedVariables false
set_option linter.unusedSimpArgs false
namespace Go.Proofs.YtbbpcbjgekencaaGreatDoor.PS
open Go Go.Proofs.YtbbpcbjgekencaaGreatDoor.Q Go.Proofs.YtbbpcbjgekencaaGreatDoor.FT Go.Proofs.YtbbpcbjgekencaaGreatDoor.Ev
section
variable {x : List Int} {l : Int}
noncomputable def fin31 (x : List Int) (l : Int) (r : Bool) (S : List Int) (bs : List Blk) : Int := if (objV x l S bs && (r || bs.any fun b => wd x 8 == placeG (x.length : Int) l b)) = true then 0 else 7
theorem ref41 (hx : U64 x) (h : Geo (x.length : Int) l) (bs : List Blk) (hlen : bs.length ≤ 1048576) (hb : ∀ b ∈ bs, BlkIn (chunksG (x.length : Int) l) b ∧ SzOk b) (r : Bool) (i : Nat) (hi : i < bs.length) (z : Int) (s : Int)
  (h0 : Evt (fun k => r16_Sound.c31 k x (r || (wd x 8 == placeG (x.length : Int) l bs[i])) ((i + 1 : Nat) : Int) (x.length : Int) l bs) z) : ∀ (d j : Nat), i - j = d → j ≤ i →
  Evt (fun k => r16_Sound.c41 k x r (i : Int) (j : Int) (x.length : Int) l bs s) (if (((bs.take i).drop j).map (serV x l)).contains s = true then 7 else z) := by
 have hl := h.l
 have hg : 1 ≤ chunksG (x.length : Int) l := h
 intro d
 induction d with
 | zero =>
  intro j hd hj
  obtain rfl : j = i := by omega
  have e : (bs.take j).drop j = [] := List.drop_eq_nil_of_le (by rw [List.length_take]; omega)
  rw [e, List.map_nil, if_neg (by simp)]
  have hf := place_fit h (hb _ (List.getElem_mem hi)).1
  have hw := (hb _ (List.getElem_mem hi)).1.w0
  cases r with
  | true =>
   rw [Bool.true_or] at h0
   exact Evt.step (fun k => by rw [r16_Sound.c41, if_neg (by simp), if_neg (by decide), i64w (by omega) (by omega)]; rfl) h0
  | false =>
   rw [Bool.false_or] at h0
   refine Evt.step (f := fun k => (r16_Place.f k (x.length : Int) l bs[j].f0 bs[j].f1 bs[j].f2).bind fun y9 => r16_Sound.c31 k x (wd x 8 == IntKind.u64.wrap y9) ((j + 1 : Nat) : Int) (x.length : Int) l bs) (fun k => by rw [r16_Sound.c41, if_neg (by simp), if_pos rfl, if_pos (by omega), if_pos (by omega), if_pos (by omega), if_pos (by omega), gd bs j _ hi, i64w (by omega) (by omega)]; rfl) ?_
   refine Evt.bind (Evt.at 2000 fun k => refPlace_eq k _ l _ h (hb _ (List.getElem_mem hi)).1) ?_
   rw [u64w (by omega) (by omega)]
   exact h0
 | succ d ih =>
  intro j hd hj
  have hlt : j < bs.length := by omega
  have hbj := hb _ (List.getElem_mem hlt)
  have hjt : j < (bs.take i).length := by rw [List.length_take]; omega
  rw [List.drop_eq_getElem_cons hjt, List.getElem_take, List.map_cons, List.contains_cons]
  refine Evt.step (f := fun k => (r16_Header.f k x (x.length : Int) l bs[j].f0 bs[j].f1 bs[j].f2).bind fun y8 => (if (y8.snd.snd.fst == s) = true then (some 7) else (r16_Sound.c41 k x r (i : Int) ((j + 1 : Nat) : Int) (x.length : Int) l bs s))) (fun k => by rw [r16_Sound.c41, if_pos (decide_eq_true (by omega)), if_pos (by omega), if_pos (by omega), if_pos (by omega), gd bs j _ hlt, i64w (by omega) (by omega)]; rfl) ?_
  refine Evt.bind (refHeader_eq x l _ hx h hbj.1 hbj.2) ?_
  have hr := ih (j + 1) (by omega) (by omega)
  show Evt (fun k => if (serV x l bs[j] == s) = true then some 7 else r16_Sound.c41 k x r (i : Int) ((j + 1 : Nat) : Int) (x.length : Int) l bs s) _
  by_cases he : serV x l bs[j] = s
  ·exact Evt.congr ((Evt.some 7).eq (by rw [if_pos (by simp [he])])) (fun k => by rw [if_pos (by simpa using he)])
  ·refine Evt.congr (hr.eq ?_) (fun k => by rw [if_neg (by simpa using he)])
   rw [show (s == serV x l bs[j]) = false by simp; exact fun h => he h.symm, Bool.false_or]
theorem ref31 (hx : U64 x) (h : Geo (x.length : Int) l) (bs : List Blk) (hlen : bs.length ≤ 1048576) (hb : ∀ b ∈ bs, BlkIn (chunksG (x.length : Int) l) b ∧ SzOk b) : ∀ (d i : Nat) (r : Bool), bs.length - i = d → i ≤ bs.length →
  Evt (fun k => r16_Sound.c31 k x r (i : Int) (x.length : Int) l bs) (fin31 x l r ((bs.take i).map (serV x l)) (bs.drop i)) := by
 have hl := h.l
 have hg : 1 ≤ chunksG (x.length : Int) l := h
 intro d
 induction d with
 | zero =>
  intro i r hd hi
  obtain rfl : i = bs.length := by omega
  rw [List.drop_length]
  refine Evt.step (f := fun _ => some (fin31 x l r ((bs.take bs.length).map (serV x l)) [])) (fun k => ?_) (Evt.some _)
  rw [r16_Sound.c31, if_neg (by simp)]
  unfold fin31 objV
  cases r <;> rfl
 | succ d ih =>
  intro i r hd hi
  have hlt : i < bs.length := by omega
  have hbi := hb _ (List.getElem_mem hlt)
  refine Evt.step (f := fun k => (r16_Header.f k x (x.length : Int) l bs[i].f0 bs[i].f1 bs[i].f2).bind fun y7 => (if (!y7.snd.snd.snd) = false then (if decide (IntKind.u64.wrap ((y7.snd.snd.fst).tdiv 4294967296) > wd x 9) = true then (some 7) else (r16_Sound.c41 k x r (i : Int) 0 (x.length : Int) l bs (y7.snd.snd.fst))) else (some 7))) (fun k => by rw [r16_Sound.c31, if_pos (decide_eq_true (by omega)), if_pos (by omega), if_pos (by omega), if_pos (by omega), gd bs i _ hlt]; congr 1; funext y; rw [if_pos (show (9 : Int) < (x.length : Int) by omega)]; rfl) ?_
  refine Evt.bind (refHeader_eq x l _ hx h hbi.1 hbi.2) ?_
  rw [List.drop_eq_getElem_cons hlt]
  unfold fin31
  rw [objV, List.any_cons]
  cases hok : (hdV x l bs[i]).2.2.2 with
  | false => exact Evt.congr ((Evt.some 7).eq (by simp)) (fun k => by simp)
  | true =>
   have hh2 : (headT (wd x (placeG (x.length : Int) l bs[i])) (wd x (placeG (x.length : Int) l bs[i] + 1))).2.2.2 = true := by
    unfold hdV mkH at hok
    simp only [Bool.and_eq_true] at hok
    exact hok.1
   have e := (headT_size _ _ hh2).2.2.2.2.2
   have e2 : serV x l bs[i] = wd x (placeG (x.length : Int) l bs[i] + 1) := e
   have hW := wd_Wd x hx (placeG (x.length : Int) l bs[i] + 1)
   rw [← e2] at hW
   have h1 := hW.1
   have h2 := hW.2
   refine Evt.congr (f := fun k => if decide (serV x l bs[i] / 4294967296 > wd x 9) = true then some 7 else r16_Sound.c41 k x r (i : Int) 0 (x.length : Int) l bs (serV x l bs[i])) ?_ (fun k => by
    rw [if_pos (by simp)]
    show (if decide (IntKind.u64.wrap ((serV x l bs[i]).tdiv 4294967296) > wd x 9) = true then some 7 else r16_Sound.c41 k x r (i : Int) 0 (x.length : Int) l bs (serV x l bs[i])) = _
    rw [Int.tdiv_eq_ediv_of_nonneg h1, u64w (by omega) (by omega)])
   by_cases he : serV x l bs[i] / 4294967296 > wd x 9
   ·refine Evt.congr ((Evt.some 7).eq ?_) (fun k => by rw [if_pos (by simpa using he)])
    rw [show decide (serV x l bs[i] / 4294967296 ≤ wd x 9) = false by simpa using he]
    simp
   ·refine Evt.congr (f := fun k => r16_Sound.c41 k x r (i : Int) 0 (x.length : Int) l bs (serV x l bs[i])) ?_ (fun k => by rw [if_neg (by simpa using he)])
    have h31 := ih (i + 1) (r || (wd x 8 == placeG (x.length : Int) l bs[i])) (by omega) (by omega)
    have h41 := ref41 hx h bs hlen hb r i hlt _ (serV x l bs[i]) h31 i 0 (by omega) (by omega)
    refine h41.eq ?_
    rw [List.drop_zero, show decide (serV x l bs[i] / 4294967296 ≤ wd x 9) = true by simp; omega]
    by_cases hc : (List.map (serV x l) (bs.take i)).contains (serV x l bs[i]) = true
    ·rw [if_pos hc, hc]
     simp
    ·have hc' : (List.map (serV x l) (bs.take i)).contains (serV x l bs[i]) = false := by simpa using hc
     rw [if_neg hc, hc']
     unfold fin31
     rw [List.take_succ_eq_append_getElem hlt, List.map_append, List.map_cons, List.map_nil, Bool.or_assoc]
     simp
noncomputable def tail21 (x : List Int) (l : Int) : Int := fin31 x l (wd x 8 == 0) [] (bsV x l)
theorem ref21 (hx : U64 x) (h : Geo (x.length : Int) l) (hlen : x.length ≤ 1048576) (ht : rightV (tabL x l) = true) (hin : ∀ b ∈ bsV x l, BlkIn (chunksG (x.length : Int) l) b ∧ SzOk b) (z : Int)
  (hz : (∀ lane : Nat, lane < 64 → logsR (tabC x l) (lane : Int) 8 = []) → z = tail21 x l) (hz2 : ¬ (∀ lane : Nat, lane < 64 → logsR (tabC x l) (lane : Int) 8 = []) → z = 7) : ∀ (d i : Nat), 64 - i = d → i ≤ 64 → (∀ lane : Nat, lane < i → logsR (tabC x l) (lane : Int) 8 = []) →
  Evt (fun k => r16_Sound.c21 k x (tabL x l) (i : Int) (x.length : Int) l) z := by
 have hl := h.l
 have hg : 1 ≤ chunksG (x.length : Int) l := h
 have htl := tab_len hlen h
 intro d
 induction d with
 | zero =>
  intro i hd hi hp
  obtain rfl : i = 64 := by omega
  rw [hz hp]
  refine Evt.step (f := fun k => (r11_Blocks.f k (tabL x l)).bind fun y6 => r16_Sound.c31 k x (wd x 8 == 0) 0 (x.length : Int) l y6) (fun k => by rw [r16_Sound.c21, if_neg (by decide)]; congr 1; funext y; rw [if_pos (show (8 : Int) < (x.length : Int) by omega)]; rfl) ?_
  refine Evt.bind (a := bsV x l) (refBlocks_eq _ htl (tabL_U64 x l hx)) ?_
  have := ref31 hx h (bsV x l) (by have := bs_len hlen h; omega) hin _ 0 (wd x 8 == 0) rfl (Nat.zero_le _)
  simpa [tail21] using this
 | succ d ih =>
  intro i hd hi hp
  refine Evt.step (f := fun k => (r11_Logs.f k (tabL x l) (i : Int)).bind fun y5 => (if decide ((↑(y5).length : Int) > 0) = true then (some 7) else (r16_Sound.c21 k x (tabL x l) ((i + 1 : Nat) : Int) (x.length : Int) l))) (fun k => by rw [r16_Sound.c21, if_pos (decide_eq_true (by omega)), i64w (by omega) (by omega)]; rfl) ?_
  refine Evt.bind (refLogs_eq _ (i : Int) htl (tabL_U64 x l hx)) ?_
  by_cases he : logsR (tabC x l) (i : Int) 8 = []
  ·have hr := ih (i + 1) (by omega) (by omega) (fun lane hlt => by
    rcases Nat.lt_or_ge lane i with a | a
    ·exact hp lane a
    ·obtain rfl : lane = i := by omega
     exact he)
   have he' : logsR (chV (tabL x l)).2 (i : Int) 8 = [] := he
   exact Evt.congr hr (fun k => by rw [he', if_neg (by simp)])
  ·have he' : ¬ logsR (chV (tabL x l)).2 (i : Int) 8 = [] := he
   rw [hz2 (fun hall => he (hall i (by omega)))]
   refine Evt.congr (Evt.some 7) (fun k => ?_)
   rw [if_pos]
   have : 0 < (logsR (chV (tabL x l)).2 (i : Int) 8).length := List.length_pos_iff.mpr he'
   simp
   omega
theorem ref7 (hx : U64 x) (h : Geo (x.length : Int) l) (hlen : x.length ≤ 1048576) : ∀ (d i : Nat), l.toNat - i = d → i ≤ l.toNat →
  Evt (fun k => r16_Sound.c7 k x (i : Int) (x.length : Int) l) (if ((List.range' i d).all (idle x) && (tilesV x l && (objsV x l && rootV x l))) = true then 0 else 7) := by
 have hl := h.l
 have hg : 1 ≤ chunksG (x.length : Int) l := h
 have htl := tab_len hlen h
 intro d
 induction d with
 | zero =>
  intro i hd hi
  refine Evt.step (f := fun k => (r05_Table.f k (x.length : Int) l).bind fun y2 => ((r15_Part.f k x y2.fst y2.snd).bind fun y3 => ((r11_Right.f k y3).bind fun y4 => (if (!y4) = false then (if decide (wd x 9 > 4294967295) = true then (some 7) else (r16_Sound.c21 k x y3 0 (x.length : Int) l)) else (some 7))))) (fun k => by rw [r16_Sound.c7, if_neg (by simp; omega)]; congr 1; funext y; congr 1; funext y; congr 1; funext y; rw [if_pos (show (9 : Int) < (x.length : Int) by omega)]; rfl) ?_
  refine Evt.bind (Evt.at 2000 fun k => refTable_eq k _ l h) ?_
  refine Evt.bind (Evt.of fun k => part_eq k x l h) ?_
  refine Evt.bind (refRight_eqT _ htl (tabL_U64 x l hx)) ?_
  rw [show List.range' i 0 = [] from rfl, List.all_nil, Bool.true_and]
  cases hr : rightV (tabL x l) with
  | false => exact Evt.congr ((Evt.some 7).eq (by unfold tilesV; rw [hr]; simp)) (fun k => by rw [if_neg (by decide)])
  | true =>
   by_cases hep : wd x 9 > 4294967295
   ·refine Evt.congr ((Evt.some 7).eq ?_) (fun k => by rw [if_pos (by decide), if_pos (by simpa using hep)])
    unfold objsV
    rw [show decide (wd x 9 ≤ 4294967295) = false by simpa using hep]
    simp
   ·refine Evt.congr (f := fun k => r16_Sound.c21 k x (tabL x l) 0 (x.length : Int) l) ?_ (fun k => by rw [if_pos (by decide), if_neg (by simpa using hep)])
    have hok := chV_ok (tabL x l) (tabL_U64 x l hx)
    have hnl := noLogs (tabC x l) hok
    have hall : ((tabC x l).all fun c => !(c.f0 == 4)) = true ↔ ∀ c ∈ tabC x l, c.f0 ≠ 4 := by simp
    have hin : ∀ b ∈ bsV x l, BlkIn (chunksG (x.length : Int) l) b ∧ SzOk b := by
     have hlc : (tabC x l).length = (tabL x l).length := by
      have h1 := hr
      unfold rightV at h1
      simp only [Bool.and_eq_true] at h1
      have h1 := h1.1
      unfold tabC
      unfold chV at h1 ⊢
      split
      ·simp
      ·rename_i hno; rw [if_neg hno] at h1; cases h1
     have hr2 : rightGo 0 (tabC x l) = true := by unfold rightV at hr; simp only [Bool.and_eq_true] at hr; exact hr.2
     have := blk_in (tabC x l) (Nat.le_trans (chV_len _) htl) hok hr2
     rw [hlc, tabL_len x l h] at this
     exact this
    refine ref21 hx h hlen hr hin _ (fun hno => ?_) (fun hyes => ?_) 64 0 (by omega) (by omega) (fun lane hlt => absurd hlt (Nat.not_lt_zero _))
    ·have ha := hall.mpr (hnl.mpr hno)
     unfold tilesV objsV rootV tail21 fin31
     rw [hr, ha, show decide (wd x 9 ≤ 4294967295) = true by simp; omega]
     have e : ((bsV x l).any fun b => placeG (x.length : Int) l b == wd x 8) = ((bsV x l).any fun b => wd x 8 == placeG (x.length : Int) l b) := by
      congr 1
      funext b
      rw [Bool.eq_iff_iff, beq_iff_eq, beq_iff_eq]
      exact ⟨fun h => h.symm, fun h => h.symm⟩
     rw [e]
     simp
    ·have ha : ((tabC x l).all fun c => !(c.f0 == 4)) = false := by
      cases hq : (tabC x l).all fun c => !(c.f0 == 4) with
      | false => rfl
      | true => exact absurd (hnl.mp (hall.mp hq)) hyes
     unfold tilesV
     rw [ha, Bool.and_false, Bool.false_and, if_neg (by decide)]
 | succ d ih =>
  intro i hd hi
  have hlt : (i : Int) < l := by omega
  rw [List.range'_succ, List.all_cons]
  have hs : Evt (fun k => if (!(markT (wd x (10 + (i : Int)))).2.2.2) = false then (if ((markT (wd x (10 + (i : Int)))).1 != 0) = true then some 7 else r16_Sound.c7 k x ((i + 1 : Nat) : Int) (x.length : Int) l) else some 7) (if (idle x i && (List.range' (i + 1) d).all (idle x) && (tilesV x l && (objsV x l && rootV x l))) = true then 0 else 7) := by
   have hr := ih (i + 1) (by omega) (by omega)
   have hi : idle x i = ((markT (wd x (10 + (i : Int)))).2.2.2 && (markT (wd x (10 + (i : Int)))).1 == 0) := rfl
   rw [hi]
   generalize (markT (wd x (10 + (i : Int)))).2.2.2 = m4
   generalize (markT (wd x (10 + (i : Int)))).1 = m1
   cases m4 with
   | false => exact Evt.congr ((Evt.some 7).eq (by rw [Bool.false_and, Bool.false_and, Bool.false_and, if_neg (by decide)])) (fun k => by rw [if_neg (by decide)])
   | true =>
    by_cases h0 : m1 = 0
    ·subst h0
     exact Evt.congr (hr.eq (by rw [show (true && ((0 : Int) == 0)) = true from rfl, Bool.true_and])) (fun k => by rw [if_pos (by decide), if_neg (by decide)])
    ·have e : (m1 == 0) = false := by simpa using h0
     exact Evt.congr ((Evt.some 7).eq (by rw [e, Bool.true_and, Bool.false_and, Bool.false_and, if_neg (by decide)])) (fun k => by rw [if_pos (by decide), if_pos (by simpa using h0)])
  refine Evt.step (fun k => ?_) hs
  rw [r16_Sound.c7, if_pos (decide_eq_true hlt), i64w (x := 10 + (i : Int)) (by omega) (by omega), if_pos (by omega), if_pos (by omega), show x.getD (10 + (i : Int)).toNat 0 = wd x (10 + (i : Int)) from rfl, refMark_eq k _ (wd_Wd x hx _), Option.bind_some, i64w (by omega) (by omega)]
  rfl
theorem refSound_eq (hx : U64 x) (hlen : x.length ≤ 1048576) : Evt (fun k => r16_Sound.f k x) (errV x) := by
 unfold r16_Sound.f
 refine Evt.bind (refSuper_eq x hx hlen) ?_
 unfold errV soundV superT
 by_cases hh : HeadOk x (lanesOf x)
 ·have hg := hh.1
  rw [if_pos hh, decide_eq_true hh, Bool.true_and]
  refine Evt.congr (f := fun k => r16_Sound.c7 k x 0 (x.length : Int) (lanesOf x)) ?_ (fun k => by rw [if_neg (by simp)])
  have := ref7 hx hg hlen (lanesOf x).toNat 0 (by omega) (by omega)
  unfold restV marksV
  rw [List.range_eq_range']
  exact this
 ·rw [if_neg hh, decide_eq_false hh, Bool.false_and]
  exact Evt.congr (Evt.some 7) (fun k => by rw [if_pos (by simp)])
end
end Go.Proofs.YtbbpcbjgekencaaGreatDoor.PS
end
section
set_option linter.unusedVariables false
set_option linter.unusedSimpArgs false
set_option linter.unusedVariables false
set_option linter.unusedSimpArgs false
namespace Go.Proofs.YtbbpcbjgekencaaGreatDoor.PS
open Go Go.Proofs.YtbbpcbjgekencaaGreatDoor.Q Go.Proofs.YtbbpcbjgekencaaGreatDoor.FT Go.Proofs.YtbbpcbjgekencaaGreatDoor.Ev
def encC (c : Chk) : Int := c.f0 + 8 * c.f1 + 32 * c.f2 + 2048 * c.f3 + 16777216 * c.f4
theorem encode_eq (k : Nat) {c : Chk} (h : OkC c) : r10_Encode.f (k + 21) c.f0 c.f1 c.f2 c.f3 c.f4 = some (encC c, 0) := by
 have hr := h.range
 unfold r10_Encode.f
 have hc : rightC c.f0 c.f1 c.f2 c.f3 c.f4 = true := h.1
 rw [refRight_eq, Option.bind_some, hc, if_neg (by decide)]
 rw [u64w (x := c.f0) (by omega) (by omega), u64w (x := c.f1) (by omega) (by omega), u64w (x := c.f2) (by omega) (by omega), u64w (x := c.f3) (by omega) (by omega)]
 rw [u64w (x := 8 * c.f1) (by omega) (by omega), u64w (x := 32 * c.f2) (by omega) (by omega), u64w (x := 2048 * c.f3) (by omega) (by omega), u64w (x := 16777216 * c.f4) (by omega) (by omega)]
 rw [u64w (x := c.f0 + 8 * c.f1) (by omega) (by omega), u64w (x := c.f0 + 8 * c.f1 + 32 * c.f2) (by omega) (by omega), u64w (x := c.f0 + 8 * c.f1 + 32 * c.f2 + 2048 * c.f3) (by omega) (by omega), u64w (x := c.f0 + 8 * c.f1 + 32 * c.f2 + 2048 * c.f3 + 16777216 * c.f4) (by omega) (by omega)]
 rfl
theorem encC_range {c : Chk} (h : OkC c) : 0 ≤ encC c ∧ encC c < 4294967296 := by
 have hr := h.range
 unfold encC
 omega
theorem U64_enc (cs : List Chk) (h : ∀ c ∈ cs, OkC c) : U64 (cs.map encC) := by
 intro w hw
 obtain ⟨c, hc, rfl⟩ := List.mem_map.mp hw
 have := encC_range (h c hc)
 exact ⟨this.1, by omega⟩
def tailC : Chk := ⟨3, 0, 0, 0, 0⟩
theorem OkC_tail : OkC tailC := ⟨by decide, by decide⟩
theorem encC_tail : encC tailC = 3 := by decide
def expand (c : Chk) : List Chk := c :: List.replicate (if c.f0 = 2 then c.f3.toNat - 1 else 0) tailC
inductive Tabl : List Chk → Prop
 | nil : Tabl []
 | snoc (cs : List Chk) (c : Chk) : Tabl cs → OkC c → c.f0 ≠ 3 → Tabl (cs ++ expand c)
theorem expand_ok {c : Chk} (h : OkC c) : ∀ x ∈ expand c, OkC x := by
 intro x hx
 rcases List.mem_cons.1 hx with rfl | hx
 ·exact h
 ·rw [List.mem_replicate] at hx
  rw [hx.2]; exact OkC_tail
theorem Tabl.ok {cs : List Chk} (h : Tabl cs) : ∀ c ∈ cs, OkC c := by
 induction h with
 | nil => intro c hc; cases hc
 | snoc cs c _ h1 h2 ih =>
  intro x hx
  rcases List.mem_append.1 hx with hx | hx
  ·exact ih x hx
  ·exact expand_ok h1 x hx
def freeC : Chk := ⟨0, 0, 0, 0, 0⟩
theorem OkC_free : OkC freeC := ⟨by decide, by decide⟩
theorem expand_enc (c : Chk) : (expand c).map encC = encC c :: List.replicate (if c.f0 = 2 then c.f3.toNat - 1 else 0) 3 := by
 unfold expand
 rw [List.map_cons, List.map_replicate, encC_tail]
theorem made_tails (l : List Int) (most : Int) (i : Nat) (c : Chk) (hc : OkC c) (hi : i < l.length) (hl : l.length ≤ 1048576) {r : List Int} :
  ∀ (d n : Nat) (out : List Int), (if c.f0 = 2 then c.f3.toNat else 1) - n = d → 1 ≤ n → n ≤ (if c.f0 = 2 then c.f3.toNat else 1) → out.length ≤ 1048576 + n →
   Evt (fun k => r11_Made.c4 k l most ((i + 1 : Nat) : Int) (out ++ List.replicate d 3)) r → Evt (fun k => r11_Made.c23 k l most (i : Int) (n : Int) out c.f0 c.f3) r := by
 have hr := hc.range
 intro d
 induction d with
 | zero =>
  intro n out hd h1 hn ho h
  refine Evt.step (f := fun k => r11_Made.c4 k l most ((i + 1 : Nat) : Int) out) (fun k => ?_) (by simpa using h)
  rw [r11_Made.c23]
  by_cases h2 : c.f0 = 2
  ·rw [if_pos h2] at hd hn
   rw [if_pos (by simpa using h2), if_neg (by simp; omega), i64w (by omega) (by omega)]; rfl
  ·rw [if_neg (by simpa using h2), i64w (by omega) (by omega)]; rfl
 | succ d ih =>
  intro n out hd h1 hn ho h
  have h2 : c.f0 = 2 := by
   by_cases h2 : c.f0 = 2
   ·exact h2
   ·rw [if_neg h2] at hd; omega
  have hd' := hd
  have hn' := hn
  rw [if_pos h2] at hd' hn'
  refine Evt.step (f := fun k => r11_Made.c23 k l most (i : Int) ((n + 1 : Nat) : Int) (out ++ [3]) c.f0 c.f3) (fun k => ?_) (ih (n + 1) (out ++ [3]) (by omega) (by omega) (by rw [if_pos h2]; omega) (by simp; omega) ?_)
  ·rw [r11_Made.c23, if_pos (by simpa using h2), if_pos (by simp; omega), if_pos (by rw [List.length_singleton]; exact big_le2 (by omega)), i64w (by omega) (by omega)]; rfl
  ·rw [List.append_assoc]
   exact h
theorem made_lay (l : List Int) (most : Int) (i : Nat) (c : Chk) (hc : OkC c) (hi : i < l.length) (hl : l.length ≤ 1048576) (out : List Int) (ho : out.length ≤ 1048576) {r : List Int}
  (h : Evt (fun k => r11_Made.c4 k l most ((i + 1 : Nat) : Int) (out ++ (expand c).map encC)) r) :
  Evt (fun k => r11_Made.c18 k l most (i : Int) out c.f0 c.f1 c.f2 c.f3 c.f4) r := by
 refine Evt.step (f := fun k => (r10_Encode.f k c.f0 c.f1 c.f2 c.f3 c.f4).bind fun y1 => if out.length + [y1.fst].length ≤ big then r11_Made.c23 k l most (i : Int) 1 (out ++ [y1.fst]) c.f0 c.f3 else none) (fun k => by rw [r11_Made.c18]) ?_
 refine Evt.bind (Evt.at 21 fun k => encode_eq k hc) ?_
 refine Evt.congr (f := fun k => r11_Made.c23 k l most (i : Int) ((1 : Nat) : Int) (out ++ [encC c]) c.f0 c.f3) ?_ (fun k => by rw [if_pos (by rw [List.length_singleton]; exact big_le2 (by omega))]; rfl)
 have hh : 1 ≤ (if c.f0 = 2 then c.f3.toNat else 1) := by
  split
  ·have := hc.huge (by assumption); omega
  ·omega
 refine made_tails l most i c hc hi hl _ 1 (out ++ [encC c]) rfl (by omega) hh (by simp; omega) ?_
 rw [expand_enc] at h
 have e : (if c.f0 = 2 then c.f3.toNat else 1) - 1 = (if c.f0 = 2 then c.f3.toNat - 1 else 0) := by split <;> omega
 rw [e, List.append_assoc]
 exact h
def roomC (c : Chk) (n : Nat) (most : Int) : Chk := if (n : Int) + max 1 c.f3 > most ∧ c.f0 = 2 then freeC else c
theorem made_room (l : List Int) (most : Int) (i : Nat) (c : Chk) (hc : OkC c) (hi : i < l.length) (hl : l.length ≤ 1048576) (out : List Int) (ho : out.length ≤ 1048576) {r : List Int}
  (h : Evt (fun k => r11_Made.c4 k l most ((i + 1 : Nat) : Int) (out ++ (expand (roomC c out.length most)).map encC)) r) :
  Evt (fun k => r11_Made.c10 k l most (i : Int) out c.f0 c.f1 c.f2 c.f3 c.f4) r := by
 have hr := hc.range
 have e : IntKind.i64.wrap ((out.length : Int) + (mx 1 c.f3)) = (out.length : Int) + max 1 c.f3 := by
  have : mx 1 c.f3 = max 1 c.f3 := by unfold mx; split <;> omega
  rw [this, i64w (by omega) (by omega)]
 by_cases h1 : (out.length : Int) + max 1 c.f3 > most
 ·by_cases h2 : c.f0 = 2
  ·refine Evt.step (fun k => by rw [r11_Made.c10, e, if_pos (decide_eq_true h1), if_pos (by simpa using h2)]) ?_
   rw [roomC, if_pos ⟨h1, h2⟩] at h
   exact made_lay l most i freeC OkC_free hi hl out ho h
  ·refine Evt.step (fun k => by rw [r11_Made.c10, e, if_pos (decide_eq_true h1), if_neg (by simpa using h2)]) ?_
   rw [roomC, if_neg (fun h => h2 h.2)] at h
   exact made_lay l most i c hc hi hl out ho h
 ·refine Evt.step (fun k => by rw [r11_Made.c10, e, if_neg (by simpa using h1)]) ?_
  rw [roomC, if_neg (fun h => h1 h.1)] at h
  exact made_lay l most i c hc hi hl out ho h
theorem roomC_len {c : Chk} (hc : OkC c) (n : Nat) (most : Int) (h : (n : Int) < most) : ((n + (expand (roomC c n most)).length : Nat) : Int) ≤ most := by
 have hr := hc.range
 unfold roomC
 split
 ·simp [expand, freeC]; omega
 ·rename_i hx
  by_cases h2 : c.f0 = 2
  ·have : ¬ ((n : Int) + max 1 c.f3 > most) := fun h => hx ⟨h, h2⟩
   have := hc.huge h2
   simp [expand, h2]; omega
  ·simp [expand, h2]; omega
theorem roomC_ok {c : Chk} (hc : OkC c) (h3 : c.f0 ≠ 3) (n : Nat) (most : Int) : OkC (roomC c n most) ∧ (roomC c n most).f0 ≠ 3 := by
 unfold roomC
 split
 ·exact ⟨OkC_free, by decide⟩
 ·exact ⟨hc, h3⟩
def numC (n : Nat) : Chk :=
 if n % 6 = 1 ∨ n % 6 = 2 then ⟨1, ((n / 8 % 3 : Nat) : Int), 0, 0, ((n / 32 % (if n / 8 % 3 = 0 then 256 else if n / 8 % 3 = 1 then 16 else 4) : Nat) : Int)⟩
 else if n % 6 = 3 then ⟨2, 0, 0, ((1 + n / 8 % 4 : Nat) : Int), 0⟩
 else if n % 6 = 4 then ⟨1, ((n / 8 % 3 : Nat) : Int), 0, 0, 0⟩
 else if n % 6 = 5 then ⟨4, 0, ((n / 8 % 3 : Nat) : Int), ((n / 32 % 8 : Nat) : Int), 0⟩
 else freeC
theorem numC_ok (n : Nat) : OkC (numC n) ∧ (numC n).f0 ≠ 3 := by
 unfold numC OkC
 rw [okC_iff]
 split
 ·rcases (show n / 8 % 3 = 0 ∨ n / 8 % 3 = 1 ∨ n / 8 % 3 = 2 by omega) with e | e | e <;> rw [e] <;> simp <;> omega
 ·split
  ·simp; omega
  ·split
   ·simp; omega
   ·split
    ·simp; omega
    ·exact ⟨⟨by simp [freeC], by simp [freeC]⟩, by simp [freeC]⟩
theorem td8 (n : Nat) : Int.tdiv (n : Int) 8 = ((n / 8 : Nat) : Int) := by rw [Int.tdiv_eq_ediv_of_nonneg (by omega)]; omega
theorem td32 (n : Nat) : Int.tdiv (n : Int) 32 = ((n / 32 : Nat) : Int) := by rw [Int.tdiv_eq_ediv_of_nonneg (by omega)]; omega
theorem tm3 (n : Nat) : Int.tmod (n : Int) 3 = ((n % 3 : Nat) : Int) := by rw [Int.tmod_eq_emod_of_nonneg (by omega)]; omega
theorem tm4 (n : Nat) : Int.tmod (n : Int) 4 = ((n % 4 : Nat) : Int) := by rw [Int.tmod_eq_emod_of_nonneg (by omega)]; omega
theorem tm8 (n : Nat) : Int.tmod (n : Int) 8 = ((n % 8 : Nat) : Int) := by rw [Int.tmod_eq_emod_of_nonneg (by omega)]; omega
theorem tm6 (n : Nat) : Int.tmod (n : Int) 6 = ((n % 6 : Nat) : Int) := by rw [Int.tmod_eq_emod_of_nonneg (by omega)]; omega
theorem made_num (l : List Int) (most : Int) (i n : Nat) (hn2 : n ≤ 65535) (out : List Int) {r : List Int} (hj3 : Evt (fun k => r11_Made.c10 k l most (i : Int) out (numC n).f0 (numC n).f1 (numC n).f2 (numC n).f3 (numC n).f4) r) (b : Bool) (hb : b = decide (n % 6 = 1 ∨ n % 6 = 2)) :
  Evt (fun k => r11_Made.c12 k l most (i : Int) (n : Int) ((n % 6 : Nat) : Int) b out 0 0 0 0 0) r := by
 subst hb
 have w8 : IntKind.i64.wrap ((n / 8 : Nat) : Int) = ((n / 8 : Nat) : Int) := i64w (by omega) (by omega)
 have w32 : IntKind.i64.wrap ((n / 32 : Nat) : Int) = ((n / 32 : Nat) : Int) := i64w (by omega) (by omega)
 have hc3 : n / 8 % 3 = 0 ∨ n / 8 % 3 = 1 ∨ n / 8 % 3 = 2 := by omega
 by_cases h12 : n % 6 = 1 ∨ n % 6 = 2
 ·rw [decide_eq_true h12]
  have hnum : numC n = ⟨1, ((n / 8 % 3 : Nat) : Int), 0, 0, ((n / 32 % (if n / 8 % 3 = 0 then 256 else if n / 8 % 3 = 1 then 16 else 4) : Nat) : Int)⟩ := by unfold numC; rw [if_pos h12]
  rw [hnum] at hj3
  refine Evt.step (fun k => by rw [r11_Made.c12, if_pos rfl, td8, w8, tm3]) ?_
  refine Evt.bind (many_eqE _ (by omega)) ?_
  have hs : IntKind.u64.wrap (1 * 2 ^ min (H.manyW ((n / 8 % 3 : Nat) : Int)).toNat 64) = (((if n / 8 % 3 = 0 then 256 else if n / 8 % 3 = 1 then 16 else 4) : Nat) : Int) ∧ 0 ≤ H.manyW ((n / 8 % 3 : Nat) : Int) := by
   rcases hc3 with e | e | e <;> rw [e] <;> exact ⟨by decide +kernel, by decide⟩
  have hp : 0 < (if n / 8 % 3 = 0 then 256 else if n / 8 % 3 = 1 then 16 else 4) := by split <;> (try split) <;> omega
  have e2 : Int.tmod (IntKind.u64.wrap (IntKind.i64.wrap (Int.tdiv (n : Int) 32))) (((if n / 8 % 3 = 0 then 256 else if n / 8 % 3 = 1 then 16 else 4) : Nat) : Int) = ((n / 32 % (if n / 8 % 3 = 0 then 256 else if n / 8 % 3 = 1 then 16 else 4) : Nat) : Int) := by
   rw [td32, w32, u64w (by omega) (by omega), Int.tmod_eq_emod_of_nonneg (by omega)]; norm_cast
  refine Evt.congr hj3 (fun k => ?_)
  rw [if_neg (by omega), hs.1, if_neg (by omega), e2]
 ·rw [decide_eq_false h12]
  by_cases h6 : n % 6 = 3
  ·have hnum : numC n = ⟨2, 0, 0, ((1 + n / 8 % 4 : Nat) : Int), 0⟩ := by unfold numC; rw [if_neg h12, if_pos h6]
   rw [hnum] at hj3
   refine Evt.step (fun k => ?_) hj3
   rw [r11_Made.c12, if_neg (by decide), if_pos (by rw [h6]; decide), td8, w8, tm4, i64w (x := 1 + ((n / 8 % 4 : Nat) : Int)) (by omega) (by omega), show 1 + ((n / 8 % 4 : Nat) : Int) = ((1 + n / 8 % 4 : Nat) : Int) by omega]
  ·have e3 : ¬ ((((n % 6 : Nat) : Int) == 3) = true) := by simp; omega
   by_cases h7 : n % 6 = 4
   ·have hnum : numC n = ⟨1, ((n / 8 % 3 : Nat) : Int), 0, 0, 0⟩ := by unfold numC; rw [if_neg h12, if_neg h6, if_pos h7]
    rw [hnum] at hj3
    refine Evt.step (fun k => ?_) hj3
    rw [r11_Made.c12, if_neg (by decide), if_neg e3, if_pos (by rw [h7]; decide), td8, w8, tm3]
   ·have e4 : ¬ ((((n % 6 : Nat) : Int) == 4) = true) := by simp; omega
    by_cases h8 : n % 6 = 5
    ·have hnum : numC n = ⟨4, 0, ((n / 8 % 3 : Nat) : Int), ((n / 32 % 8 : Nat) : Int), 0⟩ := by unfold numC; rw [if_neg h12, if_neg h6, if_neg h7, if_pos h8]
     rw [hnum] at hj3
     refine Evt.step (fun k => ?_) hj3
     rw [r11_Made.c12, if_neg (by decide), if_neg e3, if_neg e4, if_pos (by rw [h8]; decide), td8, w8, tm3, td32, w32, tm8]
    ·have e5 : ¬ ((((n % 6 : Nat) : Int) == 5) = true) := by simp; omega
     have hnum : numC n = freeC := by unfold numC; rw [if_neg h12, if_neg h6, if_neg h7, if_neg h8]
     rw [hnum] at hj3
     refine Evt.step (fun k => ?_) hj3
     rw [r11_Made.c12, if_neg (by decide), if_neg e3, if_neg e4, if_neg e5]
     rfl
theorem made_l (Q : Chk → Prop) (q0 : Q freeC) (q3 : Q tailC) (l : List Int) (hq : ∀ x ∈ l, Q (numC x.toNat)) (most : Int) (hm : 0 ≤ most ∧ most ≤ 1000) (hl : l.length ≤ 1048576) (hu : ∀ x ∈ l, 0 ≤ x ∧ x ≤ 65535) : ∀ (d i : Nat) (cs : List Chk), l.length - i = d → i ≤ l.length → Tabl cs → (cs.length : Int) ≤ most → (∀ c ∈ cs, Q c) →
  ∃ ds, Tabl ds ∧ (ds.length : Int) ≤ most ∧ (∀ c ∈ ds, Q c) ∧ Evt (fun k => r11_Made.c4 k l most (i : Int) (cs.map encC)) (ds.map encC) := by
 intro d
 induction d with
 | zero =>
  intro i cs hd hi ht hcs hQ
  obtain rfl : i = l.length := by omega
  exact ⟨cs, ht, hcs, hQ, Evt.step (f := fun _ => some (cs.map encC)) (fun k => by rw [r11_Made.c4, if_neg (by simp)]) (Evt.some _)⟩
 | succ d ih =>
  intro i cs hd hi ht hcs hQ
  have hlt : i < l.length := by omega
  by_cases hfull : (cs.length : Int) < most
  ·obtain ⟨n, hn⟩ : ∃ n : Nat, l[i] = (n : Int) := ⟨l[i].toNat, by have := hu _ (List.getElem_mem hlt); omega⟩
   have hn2 := hu _ (List.getElem_mem hlt)
   rw [hn] at hn2
   obtain ⟨hok, h3⟩ := numC_ok n
   obtain ⟨rok, r3⟩ := roomC_ok hok h3 cs.length most
   have hlen := roomC_len hok cs.length most hfull
   have hqn : Q (numC n) := by have := hq _ (List.getElem_mem hlt); rwa [hn, Int.toNat_natCast] at this
   obtain ⟨ds, hds, hdl, hdq, hev⟩ := ih (i + 1) (cs ++ expand (roomC (numC n) cs.length most)) (by omega) (by omega) (Tabl.snoc _ _ ht rok r3) (by rw [List.length_append]; exact hlen) (fun c hc => by
    rcases List.mem_append.mp hc with hc | hc
    ·exact hQ c hc
    ·rcases List.mem_cons.mp hc with rfl | hc
     ·unfold roomC; split
      ·exact q0
      ·exact hqn
     ·rw [(List.mem_replicate.mp hc).2]; exact q3)
   refine ⟨ds, hds, hdl, hdq, ?_⟩
   rw [List.map_append] at hev
   have hj3 := made_room l most i (numC n) hok hlt hl (cs.map encC) (by rw [List.length_map]; omega) (by rw [List.length_map]; exact hev)
   have hw : IntKind.i64.wrap (n : Int) = n := i64w (by omega) (by omega)
   by_cases h1 : n % 6 = 1
   ·refine Evt.step (fun k => ?_) (made_num l most i n (by omega) (cs.map encC) hj3 true (by simp [h1]))
    rw [r11_Made.c4, if_pos (decide_eq_true (by omega)), if_pos (decide_eq_true (by rw [List.length_map]; exact hfull)), if_pos (by omega), if_pos (by omega), gd l i 0 hlt, hn, hw, tm6, if_pos (by rw [h1]; decide), show ((((n % 6 : Nat) : Int) == 1) = true) by rw [h1]; decide]
   ·refine Evt.step (fun k => ?_) (made_num l most i n (by omega) (cs.map encC) hj3 (((n % 6 : Nat) : Int) == 2) (by rw [Bool.eq_iff_iff]; simp [h1]; omega))
    rw [r11_Made.c4, if_pos (decide_eq_true (by omega)), if_pos (decide_eq_true (by rw [List.length_map]; exact hfull)), if_pos (by omega), if_pos (by omega), gd l i 0 hlt, hn, hw, tm6, if_neg (by simp; omega)]
  ·exact ⟨cs, ht, hcs, hQ, Evt.step (f := fun _ => some (cs.map encC)) (fun k => by rw [r11_Made.c4, if_pos (decide_eq_true (by omega)), if_neg (by rw [List.length_map]; simpa using hfull)]) (Evt.some _)⟩
theorem made_eq (Q : Chk → Prop) (q0 : Q freeC) (q3 : Q tailC) (l : List Int) (hq : ∀ x ∈ l, Q (numC x.toNat)) (most : Int) (hm : 0 ≤ most ∧ most ≤ 1000) (hl : l.length ≤ 1048576) (hu : ∀ x ∈ l, 0 ≤ x ∧ x ≤ 65535) : ∃ ds, Tabl ds ∧ (ds.length : Int) ≤ most ∧ (∀ c ∈ ds, Q c) ∧ Evt (fun k => r11_Made.f k l most) (ds.map encC) :=
 made_l Q q0 q3 l hq most hm hl hu l.length 0 [] (by omega) (by omega) .nil (by simp; omega) (fun c hc => by cases hc)
end Go.Proofs.YtbbpcbjgekencaaGreatDoor.PS
end
section
set_option linter.unusedVariables false
set_option linter.unusedSimpArgs false
set_option linter.unusedVariables false
set_option linter.unusedSimpArgs false
namespace Go.Proofs.YtbbpcbjgekencaaGreatDoor.PS
open Go Go.Proofs.YtbbpcbjgekencaaGreatDoor.Q Go.Proofs.YtbbpcbjgekencaaGreatDoor.FT Go.Proofs.YtbbpcbjgekencaaGreatDoor.Ev
theorem U64_set {x : List Int} (hx : U64 x) (i : Nat) (v : Int) (hv : Wd v) : U64 (x.set i v) := by
 intro y hy
 rcases List.mem_or_eq_of_mem_set hy with h | rfl
 ·exact hx y h
 ·exact hv
def over (m : List Int) (a : Nat) (l : List Int) : List Int := m.take a ++ (l ++ m.drop (a + l.length))
theorem over_len (m : List Int) (a : Nat) (l : List Int) (h : a + l.length ≤ m.length) : (over m a l).length = m.length := by
 unfold over
 simp only [List.length_append, List.length_take, List.length_drop]
 omega
theorem over_U64 {m : List Int} {l : List Int} (a : Nat) (hm : U64 m) (hl : U64 l) : U64 (over m a l) := by
 intro y hy
 unfold over at hy
 rcases List.mem_append.mp hy with h | h
 ·exact hm y (List.mem_of_mem_take h)
 ·rcases List.mem_append.mp h with h | h
  ·exact hl y h
  ·exact hm y (List.mem_of_mem_drop h)
theorem put_l (a : Nat) (l : List Int) (n : Nat) (hn : n ≤ 1048576) (hfit : a + l.length ≤ n) : ∀ (d i : Nat) (m : List Int), l.length - i = d → i ≤ l.length → m.length = n →
  Evt (fun k => r15_put.c1 k (a : Int) l (i : Int) m) (over m (a + i) (l.drop i)) := by
 intro d
 induction d with
 | zero =>
  intro i m hd hi hm
  obtain rfl : i = l.length := by omega
  have e : over m (a + l.length) (l.drop l.length) = m := by unfold over; simp
  rw [e]
  exact Evt.step (f := fun _ => some m) (fun k => by rw [r15_put.c1, if_neg (by simp)]) (Evt.some _)
 | succ d ih =>
  intro i m hd hi hm
  have hlt : i < l.length := by omega
  have hn2 := ih (i + 1) (m.set (a + i) l[i]) (by omega) (by omega) (by simpa using hm)
  refine Evt.step (f := fun k => r15_put.c1 k (a : Int) l ((i + 1 : Nat) : Int) (m.set (a + i) l[i])) (fun k => ?_) (hn2.eq ?_)
  ·have e : IntKind.i64.wrap ((a : Int) + (i : Int)) = ((a + i : Nat) : Int) := i64w (by omega) (by omega)
   rw [r15_put.c1, if_pos (decide_eq_true (by omega)), e, if_pos (decide_eq_true (by omega)), if_pos (by omega), if_pos (by omega), if_pos (by omega), if_pos (by omega), if_pos (by omega), gd l i 0 hlt, i64w (by omega) (by omega)]
   rfl
  ·rw [List.drop_eq_getElem_cons hlt]
   unfold over
   rw [show a + (i + 1) = a + i + 1 by omega]
   have h1 : (m.set (a + i) l[i]).take (a + i + 1) = m.take (a + i) ++ [l[i]] := by
    rw [List.take_succ_eq_append_getElem (by rw [List.length_set]; omega), List.take_set_of_le (by omega), List.getElem_set_self]
   have h2 : (m.set (a + i) l[i]).drop (a + i + 1 + (l.drop (i + 1)).length) = m.drop (a + i + (l[i] :: l.drop (i + 1)).length) := by
    rw [List.drop_set_of_lt (by omega)]
    congr 1
    rw [List.length_cons]
    omega
   rw [h1, h2, List.append_assoc]
   rfl
theorem put_eq (a : Nat) (l m : List Int) (hn : m.length ≤ 1048576) (hfit : a + l.length ≤ m.length) : Evt (fun k => r15_put.f k (a : Int) l m) (over m a l) :=
 put_l a l m.length hn hfit l.length 0 m (by omega) (by omega) rfl
theorem headL_U64 (w l n : Int) (hw : Wd w) (hl : Wd l) (hn : Wd n) : U64 (H.headL w l n) := by
 intro x hx
 have h7 := sealL_lt [6076272092419149644, 1, w, l, n, 0, 0]
 unfold H.headL H.l7 at hx
 simp only [List.cons_append, List.nil_append, List.mem_cons, List.not_mem_nil, or_false] at hx
 rcases hx with rfl | rfl | rfl | rfl | rfl | rfl | rfl | rfl
 ·exact ⟨by decide, by decide⟩
 ·exact ⟨by decide, by decide⟩
 ·exact hw
 ·exact hl
 ·exact hn
 ·exact ⟨by decide, by decide⟩
 ·exact ⟨by decide, by decide⟩
 ·exact ⟨h7.1, by omega⟩
def geoL (a : Int) : Int := 1 + a % 3
def geoN (b : Int) : Int := 1 + b % 8
def geoW (a b : Int) : Int := 10 + 73 * geoL a + 33 * geoN b
theorem geoW_chunks (a b : Int) : chunksG (geoW a b) (geoL a) = geoN b := by
 unfold chunksG geoW geoL geoN
 rw [if_pos (by omega)]
 omega
theorem geometry_eq (k : Nat) (a b : Int) (ha : 0 ≤ a) (hb : 0 ≤ b) (t f : List Int) (i4 : List S94) (r e : Int) (sp : List S35) : r15_Geometry.f k a b t f i4 r e sp = some (geoW a b, geoL a) := by
 unfold r15_Geometry.f r05_Small.f
 rw [Int.tmod_eq_emod_of_nonneg ha, Int.tmod_eq_emod_of_nonneg hb, Int.tmod_eq_emod_of_nonneg (by omega), Int.tmod_eq_emod_of_nonneg (by omega)]
 rw [i64w (x := a % 3 % 64) (by omega) (by omega), i64w (x := b % 8 % 200) (by omega) (by omega), i64w (x := Int.tmod 0 33) (by decide) (by decide)]
 rw [i64w (x := 1 + a % 3 % 64) (by omega) (by omega), i64w (x := 1 + b % 8 % 200) (by omega) (by omega), i64w (x := 73 * (1 + a % 3 % 64)) (by omega) (by omega), i64w (x := 33 * (1 + b % 8 % 200)) (by omega) (by omega)]
 rw [i64w (x := 10 + 73 * (1 + a % 3 % 64)) (by omega) (by omega), i64w (x := 10 + 73 * (1 + a % 3 % 64) + 33 * (1 + b % 8 % 200)) (by omega) (by omega)]
 rw [show Int.tmod 0 33 = 0 by decide, i64w (by omega) (by omega), Option.bind_some]
 unfold geoW geoL geoN
 congr 2
 ·omega
 ·omega
end Go.Proofs.YtbbpcbjgekencaaGreatDoor.PS
end
