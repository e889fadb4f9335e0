import Derived.Test.YtbbpcbjgekencaaGreatDoorM13
section
set_option linter.unusedVariables false
set_option linter.unusedSimpArgs false
set_option linter.unusedVariables false
set_option linter.unusedSimpArgs false
namespace Go.Proofs.YtbbpcbjgekencaaGreatDoor.PS
open Go Go.Proofs.YtbbpcbjgekencaaGreatDoor.Q Go.Proofs.YtbbpcbjgekencaaGreatDoor.FT Go.Proofs.YtbbpcbjgekencaaGreatDoor.Ev
section
variable {x : List Int} {l : Int}
noncomputable def fin31 (x : List Int) (l : Int) (r : Bool) (S : List Int) (bs : List Blk) : Int := if (objV x l S bs && (r || bs.any fun b => wd x 8 == placeG (x.length : Int) l b)) = true then 0 else 7
theorem ref41 (hx : U64 x) (h : Geo (x.length : Int) l) (bs : List Blk) (hlen : bs.length ≤ 1048576) (hb : ∀ b ∈ bs, BlkIn (chunksG (x.length : Int) l) b ∧ SzOk b) (r : Bool) (i : Nat) (hi : i < bs.length) (z : Int) (s : Int)
  (h0 : Evt (fun k => r16_Sound.c31 k x (r || (wd x 8 == placeG (x.length : Int) l bs[i])) ((i + 1 : Nat) : Int) (x.length : Int) l bs) z) : ∀ (d j : Nat), i - j = d → j ≤ i →
  Evt (fun k => r16_Sound.c41 k x r (i : Int) (j : Int) (x.length : Int) l bs s) (if (((bs.take i).drop j).map (serV x l)).contains s = true then 7 else z) := by
 have hl := h.l
 have hg : 1 ≤ chunksG (x.length : Int) l := h
 intro d
 induction d with
 | zero =>
  intro j hd hj
  obtain rfl : j = i := by omega
  have e : (bs.take j).drop j = [] := List.drop_eq_nil_of_le (by rw [List.length_take]; omega)
  rw [e, List.map_nil, if_neg (by simp)]
  have hf := place_fit h (hb _ (List.getElem_mem hi)).1
  have hw := (hb _ (List.getElem_mem hi)).1.w0
  cases r with
  | true =>
   rw [Bool.true_or] at h0
   exact Evt.step (fun k => by rw [r16_Sound.c41, if_neg (by simp), if_neg (by decide), i64w (by omega) (by omega)]; rfl) h0
  | false =>
   rw [Bool.false_or] at h0
   refine Evt.step (f := fun k => (r16_Place.f k (x.length : Int) l bs[j].f0 bs[j].f1 bs[j].f2).bind fun y9 => r16_Sound.c31 k x (wd x 8 == IntKind.u64.wrap y9) ((j + 1 : Nat) : Int) (x.length : Int) l bs) (fun k => by rw [r16_Sound.c41, if_neg (by simp), if_pos rfl, if_pos (by omega), if_pos (by omega), if_pos (by omega), if_pos (by omega), gd bs j _ hi, i64w (by omega) (by omega)]; rfl) ?_
   refine Evt.bind (Evt.at 2000 fun k => refPlace_eq k _ l _ h (hb _ (List.getElem_mem hi)).1) ?_
   rw [u64w (by omega) (by omega)]
   exact h0
 | succ d ih =>
  intro j hd hj
  have hlt : j < bs.length := by omega
  have hbj := hb _ (List.getElem_mem hlt)
  have hjt : j < (bs.take i).length := by rw [List.length_take]; omega
  rw [List.drop_eq_getElem_cons hjt, List.getElem_take, List.map_cons, List.contains_cons]
  refine Evt.step (f := fun k => (r16_Header.f k x (x.length : Int) l bs[j].f0 bs[j].f1 bs[j].f2).bind fun y8 => (if (y8.snd.snd.fst == s) = true then (some 7) else (r16_Sound.c41 k x r (i : Int) ((j + 1 : Nat) : Int) (x.length : Int) l bs s))) (fun k => by rw [r16_Sound.c41, if_pos (decide_eq_true (by omega)), if_pos (by omega), if_pos (by omega), if_pos (by omega), gd bs j _ hlt, i64w (by omega) (by omega)]; rfl) ?_
  refine Evt.bind (refHeader_eq x l _ hx h hbj.1 hbj.2) ?_
  have hr := ih (j + 1) (by omega) (by omega)
  show Evt (fun k => if (serV x l bs[j] == s) = true then some 7 else r16_Sound.c41 k x r (i : Int) ((j + 1 : Nat) : Int) (x.length : Int) l bs s) _
  by_cases he : serV x l bs[j] = s
  ·exact Evt.congr ((Evt.some 7).eq (by rw [if_pos (by simp [he])])) (fun k => by rw [if_pos (by simpa using he)])
  ·refine Evt.congr (hr.eq ?_) (fun k => by rw [if_neg (by simpa using he)])
   rw [show (s == serV x l bs[j]) = false by simp; exact fun h => he h.symm, Bool.false_or]
theorem ref31 (hx : U64 x) (h : Geo (x.length : Int) l) (bs : List Blk) (hlen : bs.length ≤ 1048576) (hb : ∀ b ∈ bs, BlkIn (chunksG (x.length : Int) l) b ∧ SzOk b) : ∀ (d i : Nat) (r : Bool), bs.length - i = d → i ≤ bs.length →
  Evt (fun k => r16_Sound.c31 k x r (i : Int) (x.length : Int) l bs) (fin31 x l r ((bs.take i).map (serV x l)) (bs.drop i)) := by
 have hl := h.l
 have hg : 1 ≤ chunksG (x.length : Int) l := h
 intro d
 induction d with
 | zero =>
  intro i r hd hi
  obtain rfl : i = bs.length := by omega
  rw [List.drop_length]
  refine Evt.step (f := fun _ => some (fin31 x l r ((bs.take bs.length).map (serV x l)) [])) (fun k => ?_) (Evt.some _)
  rw [r16_Sound.c31, if_neg (by simp)]
  unfold fin31 objV
  cases r <;> rfl
 | succ d ih =>
  intro i r hd hi
  have hlt : i < bs.length := by omega
  have hbi := hb _ (List.getElem_mem hlt)
  refine Evt.step (f := fun k => (r16_Header.f k x (x.length : Int) l bs[i].f0 bs[i].f1 bs[i].f2).bind fun y7 => (if (!y7.snd.snd.snd) = false then (if decide (IntKind.u64.wrap ((y7.snd.snd.fst).tdiv 4294967296) > wd x 9) = true then (some 7) else (r16_Sound.c41 k x r (i : Int) 0 (x.length : Int) l bs (y7.snd.snd.fst))) else (some 7))) (fun k => by rw [r16_Sound.c31, if_pos (decide_eq_true (by omega)), if_pos (by omega), if_pos (by omega), if_pos (by omega), gd bs i _ hlt]; congr 1; funext y; rw [if_pos (show (9 : Int) < (x.length : Int) by omega)]; rfl) ?_
  refine Evt.bind (refHeader_eq x l _ hx h hbi.1 hbi.2) ?_
  rw [List.drop_eq_getElem_cons hlt]
  unfold fin31
  rw [objV, List.any_cons]
  cases hok : (hdV x l bs[i]).2.2.2 with
  | false => exact Evt.congr ((Evt.some 7).eq (by simp)) (fun k => by simp)
  | true =>
   have hh2 : (headT (wd x (placeG (x.length : Int) l bs[i])) (wd x (placeG (x.length : Int) l bs[i] + 1))).2.2.2 = true := by
    unfold hdV mkH at hok
    simp only [Bool.and_eq_true] at hok
    exact hok.1
   have e := (headT_size _ _ hh2).2.2.2.2.2
   have e2 : serV x l bs[i] = wd x (placeG (x.length : Int) l bs[i] + 1) := e
   have hW := wd_Wd x hx (placeG (x.length : Int) l bs[i] + 1)
   rw [← e2] at hW
   have h1 := hW.1
   have h2 := hW.2
   refine Evt.congr (f := fun k => if decide (serV x l bs[i] / 4294967296 > wd x 9) = true then some 7 else r16_Sound.c41 k x r (i : Int) 0 (x.length : Int) l bs (serV x l bs[i])) ?_ (fun k => by
    rw [if_pos (by simp)]
    show (if decide (IntKind.u64.wrap ((serV x l bs[i]).tdiv 4294967296) > wd x 9) = true then some 7 else r16_Sound.c41 k x r (i : Int) 0 (x.length : Int) l bs (serV x l bs[i])) = _
    rw [Int.tdiv_eq_ediv_of_nonneg h1, u64w (by omega) (by omega)])
   by_cases he : serV x l bs[i] / 4294967296 > wd x 9
   ·refine Evt.congr ((Evt.some 7).eq ?_) (fun k => by rw [if_pos (by simpa using he)])
    rw [show decide (serV x l bs[i] / 4294967296 ≤ wd x 9) = false by simpa using he]
    simp
   ·refine Evt.congr (f := fun k => r16_Sound.c41 k x r (i : Int) 0 (x.length : Int) l bs (serV x l bs[i])) ?_ (fun k => by rw [if_neg (by simpa using he)])
    have h31 := ih (i + 1) (r || (wd x 8 == placeG (x.length : Int) l bs[i])) (by omega) (by omega)
    have h41 := ref41 hx h bs hlen hb r i hlt _ (serV x l bs[i]) h31 i 0 (by omega) (by omega)
    refine h41.eq ?_
    rw [List.drop_zero, show decide (serV x l bs[i] / 4294967296 ≤ wd x 9) = true by simp; omega]
    by_cases hc : (List.map (serV x l) (bs.take i)).contains (serV x l bs[i]) = true
    ·rw [if_pos hc, hc]
     simp
    ·have hc' : (List.map (serV x l) (bs.take i)).contains (serV x l bs[i]) = false := by simpa using hc
     rw [if_neg hc, hc']
     unfold fin31
     rw [List.take_succ_eq_append_getElem hlt, List.map_append, List.map_cons, List.map_nil, Bool.or_assoc]
     simp
noncomputable def tail21 (x : List Int) (l : Int) : Int := fin31 x l (wd x 8 == 0) [] (bsV x l)
theorem ref21 (hx : U64 x) (h : Geo (x.length : Int) l) (hlen : x.length ≤ 1048576) (ht : rightV (tabL x l) = true) (hin : ∀ b ∈ bsV x l, BlkIn (chunksG (x.length : Int) l) b ∧ SzOk b) (z : Int)
  (hz : (∀ lane : Nat, lane < 64 → logsR (tabC x l) (lane : Int) 8 = []) → z = tail21 x l) (hz2 : ¬ (∀ lane : Nat, lane < 64 → logsR (tabC x l) (lane : Int) 8 = []) → z = 7) : ∀ (d i : Nat), 64 - i = d → i ≤ 64 → (∀ lane : Nat, lane < i → logsR (tabC x l) (lane : Int) 8 = []) →
  Evt (fun k => r16_Sound.c21 k x (tabL x l) (i : Int) (x.length : Int) l) z := by
 have hl := h.l
 have hg : 1 ≤ chunksG (x.length : Int) l := h
 have htl := tab_len hlen h
 intro d
 induction d with
 | zero =>
  intro i hd hi hp
  obtain rfl : i = 64 := by omega
  rw [hz hp]
  refine Evt.step (f := fun k => (r11_Blocks.f k (tabL x l)).bind fun y6 => r16_Sound.c31 k x (wd x 8 == 0) 0 (x.length : Int) l y6) (fun k => by rw [r16_Sound.c21, if_neg (by decide)]; congr 1; funext y; rw [if_pos (show (8 : Int) < (x.length : Int) by omega)]; rfl) ?_
  refine Evt.bind (a := bsV x l) (refBlocks_eq _ htl (tabL_U64 x l hx)) ?_
  have := ref31 hx h (bsV x l) (by have := bs_len hlen h; omega) hin _ 0 (wd x 8 == 0) rfl (Nat.zero_le _)
  simpa [tail21] using this
 | succ d ih =>
  intro i hd hi hp
  refine Evt.step (f := fun k => (r11_Logs.f k (tabL x l) (i : Int)).bind fun y5 => (if decide ((↑(y5).length : Int) > 0) = true then (some 7) else (r16_Sound.c21 k x (tabL x l) ((i + 1 : Nat) : Int) (x.length : Int) l))) (fun k => by rw [r16_Sound.c21, if_pos (decide_eq_true (by omega)), i64w (by omega) (by omega)]; rfl) ?_
  refine Evt.bind (refLogs_eq _ (i : Int) htl (tabL_U64 x l hx)) ?_
  by_cases he : logsR (tabC x l) (i : Int) 8 = []
  ·have hr := ih (i + 1) (by omega) (by omega) (fun lane hlt => by
    rcases Nat.lt_or_ge lane i with a | a
    ·exact hp lane a
    ·obtain rfl : lane = i := by omega
     exact he)
   have he' : logsR (chV (tabL x l)).2 (i : Int) 8 = [] := he
   exact Evt.congr hr (fun k => by rw [he', if_neg (by simp)])
  ·have he' : ¬ logsR (chV (tabL x l)).2 (i : Int) 8 = [] := he
   rw [hz2 (fun hall => he (hall i (by omega)))]
   refine Evt.congr (Evt.some 7) (fun k => ?_)
   rw [if_pos]
   have : 0 < (logsR (chV (tabL x l)).2 (i : Int) 8).length := List.length_pos_iff.mpr he'
   simp
   omega
theorem ref7 (hx : U64 x) (h : Geo (x.length : Int) l) (hlen : x.length ≤ 1048576) : ∀ (d i : Nat), l.toNat - i = d → i ≤ l.toNat →
  Evt (fun k => r16_Sound.c7 k x (i : Int) (x.length : Int) l) (if ((List.range' i d).all (idle x) && (tilesV x l && (objsV x l && rootV x l))) = true then 0 else 7) := by
 have hl := h.l
 have hg : 1 ≤ chunksG (x.length : Int) l := h
 have htl := tab_len hlen h
 intro d
 induction d with
 | zero =>
  intro i hd hi
  refine Evt.step (f := fun k => (r05_Table.f k (x.length : Int) l).bind fun y2 => ((r15_Part.f k x y2.fst y2.snd).bind fun y3 => ((r11_Right.f k y3).bind fun y4 => (if (!y4) = false then (if decide (wd x 9 > 4294967295) = true then (some 7) else (r16_Sound.c21 k x y3 0 (x.length : Int) l)) else (some 7))))) (fun k => by rw [r16_Sound.c7, if_neg (by simp; omega)]; congr 1; funext y; congr 1; funext y; congr 1; funext y; rw [if_pos (show (9 : Int) < (x.length : Int) by omega)]; rfl) ?_
  refine Evt.bind (Evt.at 2000 fun k => refTable_eq k _ l h) ?_
  refine Evt.bind (Evt.of fun k => part_eq k x l h) ?_
  refine Evt.bind (refRight_eqT _ htl (tabL_U64 x l hx)) ?_
  rw [show List.range' i 0 = [] from rfl, List.all_nil, Bool.true_and]
  cases hr : rightV (tabL x l) with
  | false => exact Evt.congr ((Evt.some 7).eq (by unfold tilesV; rw [hr]; simp)) (fun k => by rw [if_neg (by decide)])
  | true =>
   by_cases hep : wd x 9 > 4294967295
   ·refine Evt.congr ((Evt.some 7).eq ?_) (fun k => by rw [if_pos (by decide), if_pos (by simpa using hep)])
    unfold objsV
    rw [show decide (wd x 9 ≤ 4294967295) = false by simpa using hep]
    simp
   ·refine Evt.congr (f := fun k => r16_Sound.c21 k x (tabL x l) 0 (x.length : Int) l) ?_ (fun k => by rw [if_pos (by decide), if_neg (by simpa using hep)])
    have hok := chV_ok (tabL x l) (tabL_U64 x l hx)
    have hnl := noLogs (tabC x l) hok
    have hall : ((tabC x l).all fun c => !(c.f0 == 4)) = true ↔ ∀ c ∈ tabC x l, c.f0 ≠ 4 := by simp
    have hin : ∀ b ∈ bsV x l, BlkIn (chunksG (x.length : Int) l) b ∧ SzOk b := by
     have hlc : (tabC x l).length = (tabL x l).length := by
      have h1 := hr
      unfold rightV at h1
      simp only [Bool.and_eq_true] at h1
      have h1 := h1.1
      unfold tabC
      unfold chV at h1 ⊢
      split
      ·simp
      ·rename_i hno; rw [if_neg hno] at h1; cases h1
     have hr2 : rightGo 0 (tabC x l) = true := by unfold rightV at hr; simp only [Bool.and_eq_true] at hr; exact hr.2
     have := blk_in (tabC x l) (Nat.le_trans (chV_len _) htl) hok hr2
     rw [hlc, tabL_len x l h] at this
     exact this
    refine ref21 hx h hlen hr hin _ (fun hno => ?_) (fun hyes => ?_) 64 0 (by omega) (by omega) (fun lane hlt => absurd hlt (Nat.not_lt_zero _))
    ·have ha := hall.mpr (hnl.mpr hno)
     unfold tilesV objsV rootV tail21 fin31
     rw [hr, ha, show decide (wd x 9 ≤ 4294967295) = true by simp; omega]
     have e : ((bsV x l).any fun b => placeG (x.length : Int) l b == wd x 8) = ((bsV x l).any fun b => wd x 8 == placeG (x.length : Int) l b) := by
      congr 1
      funext b
      rw [Bool.eq_iff_iff, beq_iff_eq, beq_iff_eq]
      exact ⟨fun h => h.symm, fun h => h.symm⟩
     rw [e]
     simp
    ·have ha : ((tabC x l).all fun c => !(c.f0 == 4)) = false := by
      cases hq : (tabC x l).all fun c => !(c.f0 == 4) with
      | false => rfl
      | true => exact absurd (hnl.mp (hall.mp hq)) hyes
     unfold tilesV
     rw [ha, Bool.and_false, Bool.false_and, if_neg (by decide)]
 | succ d ih =>
  intro i hd hi
  have hlt : (i : Int) < l := by omega
  rw [List.range'_succ, List.all_cons]
  have hs : Evt (fun k => if (!(markT (wd x (10 + (i : Int)))).2.2.2) = false then (if ((markT (wd x (10 + (i : Int)))).1 != 0) = true then some 7 else r16_Sound.c7 k x ((i + 1 : Nat) : Int) (x.length : Int) l) else some 7) (if (idle x i && (List.range' (i + 1) d).all (idle x) && (tilesV x l && (objsV x l && rootV x l))) = true then 0 else 7) := by
   have hr := ih (i + 1) (by omega) (by omega)
   have hi : idle x i = ((markT (wd x (10 + (i : Int)))).2.2.2 && (markT (wd x (10 + (i : Int)))).1 == 0) := rfl
   rw [hi]
   generalize (markT (wd x (10 + (i : Int)))).2.2.2 = m4
   generalize (markT (wd x (10 + (i : Int)))).1 = m1
   cases m4 with
   | false => exact Evt.congr ((Evt.some 7).eq (by rw [Bool.false_and, Bool.false_and, Bool.false_and, if_neg (by decide)])) (fun k => by rw [if_neg (by decide)])
   | true =>
    by_cases h0 : m1 = 0
    ·subst h0
     exact Evt.congr (hr.eq (by rw [show (true && ((0 : Int) == 0)) = true from rfl, Bool.true_and])) (fun k => by rw [if_pos (by decide), if_neg (by decide)])
    ·have e : (m1 == 0) = false := by simpa using h0
     exact Evt.congr ((Evt.some 7).eq (by rw [e, Bool.true_and, Bool.false_and, Bool.false_and, if_neg (by decide)])) (fun k => by rw [if_pos (by decide), if_pos (by simpa using h0)])
  refine Evt.step (fun k => ?_) hs
  rw [r16_Sound.c7, if_pos (decide_eq_true hlt), i64w (x := 10 + (i : Int)) (by omega) (by omega), if_pos (by omega), if_pos (by omega), show x.getD (10 + (i : Int)).toNat 0 = wd x (10 + (i : Int)) from rfl, refMark_eq k _ (wd_Wd x hx _), Option.bind_some, i64w (by omega) (by omega)]
  rfl
theorem refSound_eq (hx : U64 x) (hlen : x.length ≤ 1048576) : Evt (fun k => r16_Sound.f k x) (errV x) := by
 unfold r16_Sound.f
 refine Evt.bind (refSuper_eq x hx hlen) ?_
 unfold errV soundV superT
 by_cases hh : HeadOk x (lanesOf x)
 ·have hg := hh.1
  rw [if_pos hh, decide_eq_true hh, Bool.true_and]
  refine Evt.congr (f := fun k => r16_Sound.c7 k x 0 (x.length : Int) (lanesOf x)) ?_ (fun k => by rw [if_neg (by simp)])
  have := ref7 hx hg hlen (lanesOf x).toNat 0 (by omega) (by omega)
  unfold restV marksV
  rw [List.range_eq_range']
  exact this
 ·rw [if_neg hh, decide_eq_false hh, Bool.false_and]
  exact Evt.congr (Evt.some 7) (fun k => by rw [if_pos (by simp)])
end
end Go.Proofs.YtbbpcbjgekencaaGreatDoor.PS
end
section
set_option linter.unusedVariables false
set_option linter.unusedSimpArgs false
set_option linter.unusedVariables false
set_option linter.unusedSimpArgs false
namespace Go.Proofs.YtbbpcbjgekencaaGreatDoor.PS
open Go Go.Proofs.YtbbpcbjgekencaaGreatDoor.Q Go.Proofs.YtbbpcbjgekencaaGreatDoor.FT Go.Proofs.YtbbpcbjgekencaaGreatDoor.Ev
abbrev Obj := S64
section
variable {x : List Int} {l : Int}
def dataAt (x : List Int) (a s : Int) : List Int := List.take s.toNat (List.drop (a + 2).toNat x)
def objOf (x : List Int) (l : Int) (b : Blk) : Obj := ⟨⟨placeG (x.length : Int) l b, (hdV x l b).1, (hdV x l b).2.2.1⟩, dataAt x (placeG (x.length : Int) l b) (hdV x l b).2.1⟩
noncomputable def objsL (x : List Int) : List Obj := if soundV x = true then (bsV x (lanesOf x)).map (objOf x (lanesOf x)) else []
theorem objV_ok : ∀ (bs : List Blk) (S : List Int), objV x l S bs = true → ∀ b ∈ bs, (hdV x l b).2.2.2 = true
 | [], _, _, _, hb => by cases hb
 | c :: bs, S, h, b, hb => by
  rw [objV] at h
  simp only [Bool.and_eq_true] at h
  rcases List.mem_cons.mp hb with rfl | hb
  ·exact h.1
  ·exact objV_ok bs _ h.2.2.2 b hb
theorem hd_size (b : Blk) (h : (hdV x l b).2.2.2 = true) : 0 ≤ (hdV x l b).2.1 ∧ (hdV x l b).2.1 + 2 ≤ b.f2 ∧ (hdV x l b).2.1 ≤ 4096 := by
 unfold hdV mkH at h ⊢
 simp only [Bool.and_eq_true, beq_iff_eq] at h ⊢
 have hz := headT_size _ _ h.1
 have hr := h.2
 unfold roomS blockS chunksS at hr
 refine ⟨hz.1, ?_, hz.2.1⟩
 rw [← hr]
 have a := hz.1
 have c := hz.2.1
 split <;> split <;> (try split) <;> (try split) <;> omega
theorem sound_parts (h : soundV x = true) : Geo (x.length : Int) (lanesOf x) ∧ tilesV x (lanesOf x) = true ∧ (∀ b ∈ bsV x (lanesOf x), (hdV x (lanesOf x) b).2.2.2 = true) := by
 unfold soundV restV objsV at h
 simp only [Bool.and_eq_true, decide_eq_true_eq] at h
 exact ⟨h.1.1, h.2.2.1, objV_ok _ _ h.2.2.2.1.1⟩
theorem objs_l (hx : U64 x) (h : Geo (x.length : Int) l) (bs : List Blk) (hlen : bs.length ≤ 1048576) (hb : ∀ b ∈ bs, (BlkIn (chunksG (x.length : Int) l) b ∧ SzOk b) ∧ (hdV x l b).2.2.2 = true) : ∀ (d i : Nat) (acc : List Obj), bs.length - i = d → i ≤ bs.length → acc.length = i →
  Evt (fun k => sound_Objects.c8 k (bs.length : Int) (i : Int) x (x.length : Int) l acc bs) (acc ++ (bs.drop i).map (objOf x l)) := by
 have hl := h.l
 intro d
 induction d with
 | zero =>
  intro i acc hd hi ha
  obtain rfl : i = bs.length := by omega
  rw [List.drop_length, List.map_nil, List.append_nil]
  exact Evt.step (f := fun _ => some acc) (fun k => by rw [sound_Objects.c8, if_neg (by simp)]) (Evt.some _)
 | succ d ih =>
  intro i acc hd hi ha
  have hlt : i < bs.length := by omega
  have hbi := hb _ (List.getElem_mem hlt)
  have hf := place_fit h hbi.1.1
  have hs := hd_size _ hbi.2
  have hn := ih (i + 1) (acc ++ [objOf x l bs[i]]) (by omega) (by omega) (by simp [ha])
  rw [List.drop_eq_getElem_cons hlt, List.map_cons, ← List.singleton_append, ← List.append_assoc]
  refine Evt.step (fun k => ?_) hn
  have htk : List.take ((x.length : Int)).toNat x = x := by rw [Int.toNat_natCast, List.take_length]
  have hdl : ((List.drop (placeG (x.length : Int) l bs[i] + 2).toNat x).length : Int) = x.length - (placeG (x.length : Int) l bs[i] + 2) := by rw [List.length_drop]; omega
  rw [sound_Objects.c8, if_pos (decide_eq_true (by omega)), if_pos (by omega), if_pos (by omega), if_pos (by omega), gd bs i _ hlt, header_eq k x l _ hx h hbi.1.1, Option.bind_some, place_eq k _ l _ h hbi.1.1, Option.bind_some]
  rw [i64w (x := placeG (x.length : Int) l bs[i] + 2) (by omega) (by omega), htk, if_pos (by omega), if_pos (by omega), if_pos (by omega), if_pos hs.1, if_pos (by omega)]
  unfold oid_Name.f
  rw [Option.bind_some]
  have hdata : List.drop (Int.toNat 0) (List.take (hdV x l bs[i]).2.1.toNat (List.drop (placeG (x.length : Int) l bs[i] + 2).toNat x)) = dataAt x (placeG (x.length : Int) l bs[i]) (hdV x l bs[i]).2.1 := rfl
  rw [hdata]
  have hdlen : (dataAt x (placeG (x.length : Int) l bs[i]) (hdV x l bs[i]).2.1).length ≤ 4096 := by unfold dataAt; rw [List.length_take]; omega
  rw [if_pos (by unfold big; omega), if_pos (by rw [List.length_singleton]; exact big_le2 (by omega)), i64w (by omega) (by omega)]
  rfl
theorem objects_eqL (hx : U64 x) (hlen : x.length ≤ 1048576) : Evt (fun k => sound_Objects.f k x) (objsL x) := by
 unfold sound_Objects.f
 refine Evt.bind (openE hx hlen) ?_
 unfold openV objsL
 cases hs : soundV x with
 | false => exact Evt.congr (Evt.some []) (fun k => by simp)
 | true =>
  obtain ⟨hg, ht, ho⟩ := sound_parts hs
  refine Evt.congr (f := fun k => (sound_pool_table.f k x (x.length : Int) (lanesOf x)).bind fun y1 => (tile_Blocks.f k y1).bind fun y2 => sound_Objects.c8 k (y2.length : Int) 0 x (x.length : Int) (lanesOf x) [] y2) ?_ (fun k => by simp)
  refine Evt.bind (Evt.of fun k => table_eq k x _ hg) ?_
  refine Evt.bind (a := bsV x (lanesOf x)) (blocks_eq _ (tab_len hlen hg) (tabL_U64 x _ hx)) ?_
  have := objs_l hx hg (bsV x (lanesOf x)) (by have := bs_len hlen hg; omega) (fun b hb => ⟨bs_in hx hg hlen ht b hb, ho b hb⟩) _ 0 [] rfl (Nat.zero_le _) rfl
  simpa using this
theorem refObjs_l (hx : U64 x) (h : Geo (x.length : Int) l) (bs : List Blk) (hlen : bs.length ≤ 1048576) (hb : ∀ b ∈ bs, (BlkIn (chunksG (x.length : Int) l) b ∧ SzOk b) ∧ (hdV x l b).2.2.2 = true) : ∀ (d i : Nat) (acc : List Obj), bs.length - i = d → i ≤ bs.length → acc.length = i →
  Evt (fun k => r16_Objects.c10 k x (i : Int) (x.length : Int) l bs acc) (acc ++ (bs.drop i).map (objOf x l)) := by
 have hl := h.l
 intro d
 induction d with
 | zero =>
  intro i acc hd hi ha
  obtain rfl : i = bs.length := by omega
  rw [List.drop_length, List.map_nil, List.append_nil]
  exact Evt.step (f := fun _ => some acc) (fun k => by rw [r16_Objects.c10, if_neg (by simp)]) (Evt.some _)
 | succ d ih =>
  intro i acc hd hi ha
  have hlt : i < bs.length := by omega
  have hbi := hb _ (List.getElem_mem hlt)
  have hf := place_fit h hbi.1.1
  have hs := hd_size _ hbi.2
  have hn := ih (i + 1) (acc ++ [objOf x l bs[i]]) (by omega) (by omega) (by simp [ha])
  rw [List.drop_eq_getElem_cons hlt, List.map_cons, ← List.singleton_append, ← List.append_assoc]
  have hE : Evt (fun k => (r16_Header.f k x (x.length : Int) l bs[i].f0 bs[i].f1 bs[i].f2).bind fun y5 => (r16_Place.f k (x.length : Int) l bs[i].f0 bs[i].f1 bs[i].f2).bind fun y6 => (if 0 ≤ IntKind.i64.wrap (y6 + 2) then (if IntKind.i64.wrap (y6 + 2) ≤ IntKind.i64.wrap (IntKind.i64.wrap (y6 + 2) + y5.snd.fst) then (if IntKind.i64.wrap (IntKind.i64.wrap (y6 + 2) + y5.snd.fst) ≤ (↑x.length : Int) then (if 0 + (List.drop (IntKind.i64.wrap (y6 + 2)).toNat (List.take (IntKind.i64.wrap (IntKind.i64.wrap (y6 + 2) + y5.snd.fst)).toNat x)).length ≤ big then (if acc.length + [S64.mk (S42.mk y6 y5.fst y5.snd.snd.fst) ([] ++ List.drop (IntKind.i64.wrap (y6 + 2)).toNat (List.take (IntKind.i64.wrap (IntKind.i64.wrap (y6 + 2) + y5.snd.fst)).toNat x))].length ≤ big then (r16_Objects.c10 k x ((i + 1 : Nat) : Int) (x.length : Int) l bs (acc ++ [S64.mk (S42.mk y6 y5.fst y5.snd.snd.fst) ([] ++ List.drop (IntKind.i64.wrap (y6 + 2)).toNat (List.take (IntKind.i64.wrap (IntKind.i64.wrap (y6 + 2) + y5.snd.fst)).toNat x))])) else none) else none) else none) else none) else none))
    (acc ++ [objOf x l bs[i]] ++ (bs.drop (i + 1)).map (objOf x l)) := by
   refine Evt.bind (refHeader_eq x l _ hx h hbi.1.1 hbi.1.2) ?_
   refine Evt.bind (Evt.at 2000 fun k => refPlace_eq k _ l _ h hbi.1.1) ?_
   refine Evt.congr hn (fun k => ?_)
   rw [i64w (x := placeG (x.length : Int) l bs[i] + 2) (by omega) (by omega), i64w (x := placeG (x.length : Int) l bs[i] + 2 + _) (by omega) (by omega), if_pos (by omega), if_pos (by omega), if_pos (by omega)]
   have hdata : List.drop (placeG (x.length : Int) l bs[i] + 2).toNat (List.take (placeG (x.length : Int) l bs[i] + 2 + (hdV x l bs[i]).2.1).toNat x) = dataAt x (placeG (x.length : Int) l bs[i]) (hdV x l bs[i]).2.1 := by
    unfold dataAt
    rw [List.drop_take]
    congr 1
    omega
   rw [hdata]
   have hdlen : (dataAt x (placeG (x.length : Int) l bs[i]) (hdV x l bs[i]).2.1).length ≤ 4096 := by unfold dataAt; rw [List.length_take]; omega
   rw [if_pos (by unfold big; omega), if_pos (by rw [List.length_singleton]; exact big_le2 (by omega))]
   rfl
  refine Evt.step (fun k => ?_) hE
  rw [r16_Objects.c10, if_pos (decide_eq_true (by omega)), if_pos (by omega), if_pos (by omega), if_pos (by omega), gd bs i _ hlt, i64w (x := (i : Int) + 1) (by omega) (by omega)]
  congr 1
  funext y
  rw [if_pos (by omega), if_pos (by omega), if_pos (by omega)]
  rfl
theorem refObjects_eq (hx : U64 x) (hlen : x.length ≤ 1048576) : Evt (fun k => r16_Objects.f k x) (objsL x) := by
 unfold r16_Objects.f
 refine Evt.bind (refSound_eq hx hlen) ?_
 unfold errV objsL
 cases hs : soundV x with
 | false => exact Evt.congr (Evt.some []) (fun k => by simp)
 | true =>
  obtain ⟨hg, ht, ho⟩ := sound_parts hs
  have hh : HeadOk x (lanesOf x) := by
   unfold soundV at hs
   simp only [Bool.and_eq_true, decide_eq_true_eq] at hs
   exact hs.1
  refine Evt.congr (f := fun k => (r06_Decode.f k x).bind fun y1 => (r05_Table.f k y1.fst y1.snd.fst).bind fun y2 => (r15_Part.f k x y2.fst y2.snd).bind fun y3 => (r11_Blocks.f k y3).bind fun y4 => r16_Objects.c10 k x 0 y1.fst y1.snd.fst y4 []) ?_ (fun k => by rw [if_neg (by simp)])
  refine Evt.bind (refSuper_eq x hx hlen) ?_
  unfold superT
  rw [if_pos hh]
  refine Evt.bind (Evt.at 2000 fun k => refTable_eq k _ _ hg) ?_
  refine Evt.bind (Evt.of fun k => part_eq k x _ hg) ?_
  refine Evt.bind (a := bsV x (lanesOf x)) (refBlocks_eq _ (tab_len hlen hg) (tabL_U64 x _ hx)) ?_
  have := refObjs_l hx hg (bsV x (lanesOf x)) (by have := bs_len hlen hg; omega) (fun b hb => ⟨bs_in hx hg hlen ht b hb, ho b hb⟩) _ 0 [] rfl (Nat.zero_le _) rfl
  simpa using this
noncomputable def oidOf (o : Obj) : Int × Int × Int := (o.f0.f0, o.f0.f1, o.f0.f2)
noncomputable def rootGo (r : Int) : List Obj → Int × Int × Int
 | [] => (0, 0, 0)
 | o :: os => if o.f0.f0 = r then oidOf o else rootGo r os
noncomputable def rootL (x : List Int) : Int × Int × Int := rootGo (wd x 8) (objsL x)
theorem objs_at (hx : U64 x) (hlen : x.length ≤ 1048576) (os : List Obj) (ho : os = objsL x) : (os ≠ [] → 8 < x.length) ∧ os.length ≤ 600000 ∧ ∀ o ∈ os, 0 ≤ o.f0.f0 ∧ o.f0.f0 < 1048576 := by
 subst ho
 unfold objsL
 cases hs : soundV x with
 | false => simp
 | true =>
  obtain ⟨hg, ht, _⟩ := sound_parts hs
  have hl := hg.l
  have hgg : 1 ≤ chunksG (x.length : Int) (lanesOf x) := hg
  rw [if_pos rfl]
  refine ⟨fun _ => by omega, by rw [List.length_map]; exact bs_len hlen hg, fun o h => ?_⟩
  rw [List.mem_map] at h
  obtain ⟨b, hb, rfl⟩ := h
  have hbi := bs_in hx hg hlen ht b hb
  have hf := place_fit hg hbi.1
  have hw := hbi.1.w0
  show 0 ≤ placeG (x.length : Int) (lanesOf x) b ∧ placeG (x.length : Int) (lanesOf x) b < 1048576
  omega
theorem rootI_l (os : List Obj) (h8 : os ≠ [] → 8 < x.length) (hlen : os.length ≤ 600000) (ho : ∀ o ∈ os, 0 ≤ o.f0.f0 ∧ o.f0.f0 < 1048576) : ∀ (d i : Nat), os.length - i = d → i ≤ os.length →
  Evt (fun k => sound_Root.c3 k x (os.length : Int) (i : Int) os) (rootGo (wd x 8) (os.drop i)) := by
 intro d
 induction d with
 | zero =>
  intro i hd hi
  obtain rfl : i = os.length := by omega
  rw [List.drop_length, rootGo]
  exact Evt.step (f := fun _ => some (0, 0, 0)) (fun k => by rw [sound_Root.c3, if_neg (by simp)]) (Evt.some _)
 | succ d ih =>
  intro i hd hi
  have hlt : i < os.length := by omega
  have h8' : 8 < x.length := h8 (fun h => by rw [h] at hlt; simp at hlt)
  have hoi := ho _ (List.getElem_mem hlt)
  rw [List.drop_eq_getElem_cons hlt, rootGo]
  have hs : ∀ k, sound_Root.c3 (k + 1) x (os.length : Int) (i : Int) os = if (os[i].f0.f0 == wd x 8) = true then some (oidOf os[i]) else sound_Root.c3 k x (os.length : Int) ((i + 1 : Nat) : Int) os := fun k => by
   rw [sound_Root.c3, if_pos (decide_eq_true (by omega)), if_pos (by omega), if_pos (by omega), if_pos (by omega), if_pos (by omega), gd os i _ hlt, u64w (by omega) (by omega), i64w (by omega) (by omega)]
   rfl
  by_cases he : os[i].f0.f0 = wd x 8
  ·rw [if_pos he]
   exact Evt.step (f := fun _ => some (oidOf os[i])) (fun k => by rw [hs, if_pos (by simpa using he)]) (Evt.some _)
  ·rw [if_neg he]
   exact Evt.step (fun k => by rw [hs, if_neg (by simpa using he)]) (ih (i + 1) (by omega) (by omega))
theorem rootR_l (os : List Obj) (h8 : os ≠ [] → 8 < x.length) (hlen : os.length ≤ 600000) (ho : ∀ o ∈ os, 0 ≤ o.f0.f0 ∧ o.f0.f0 < 1048576) : ∀ (d i : Nat), os.length - i = d → i ≤ os.length →
  Evt (fun k => r16_Root.c4 k x (i : Int) os) (rootGo (wd x 8) (os.drop i)) := by
 intro d
 induction d with
 | zero =>
  intro i hd hi
  obtain rfl : i = os.length := by omega
  rw [List.drop_length, rootGo]
  exact Evt.step (f := fun _ => some (0, 0, 0)) (fun k => by rw [r16_Root.c4, if_neg (by simp)]) (Evt.some _)
 | succ d ih =>
  intro i hd hi
  have hlt : i < os.length := by omega
  have h8' : 8 < x.length := h8 (fun h => by rw [h] at hlt; simp at hlt)
  have hoi := ho _ (List.getElem_mem hlt)
  rw [List.drop_eq_getElem_cons hlt, rootGo]
  by_cases he : os[i].f0.f0 = wd x 8
  ·rw [if_pos he]
   refine Evt.step (f := fun _ => some (oidOf os[i])) (fun k => ?_) (Evt.some _)
   rw [r16_Root.c4, if_pos (decide_eq_true (by omega)), if_pos (by omega), if_pos (by omega), if_pos (by omega), if_pos (by omega), gd os i _ hlt, u64w (by omega) (by omega), if_pos (by show (wd x 8 == os[i].f0.f0) = true; simpa using he.symm), if_pos (by omega), if_pos (by omega), if_pos (by omega)]
   rfl
  ·rw [if_neg he]
   refine Evt.step (fun k => ?_) (ih (i + 1) (by omega) (by omega))
   rw [r16_Root.c4, if_pos (decide_eq_true (by omega)), if_pos (by omega), if_pos (by omega), if_pos (by omega), if_pos (by omega), gd os i _ hlt, u64w (by omega) (by omega), if_neg (by show ¬ (wd x 8 == os[i].f0.f0) = true; simp; exact fun h => he h.symm), i64w (by omega) (by omega)]
   rfl
theorem root_eqL (hx : U64 x) (hlen : x.length ≤ 1048576) : Evt (fun k => sound_Root.f k x) (rootL x) := by
 obtain ⟨h8, hl, ho⟩ := objs_at hx hlen _ rfl
 unfold sound_Root.f
 refine Evt.bind (objects_eqL hx hlen) ?_
 exact rootI_l (objsL x) h8 hl ho _ 0 rfl (Nat.zero_le _)
theorem refRoot_eqL (hx : U64 x) (hlen : x.length ≤ 1048576) : Evt (fun k => r16_Root.f k x) (rootL x) := by
 obtain ⟨h8, hl, ho⟩ := objs_at hx hlen _ rfl
 unfold r16_Root.f
 refine Evt.bind (refObjects_eq hx hlen) ?_
 exact rootR_l (objsL x) h8 hl ho _ 0 rfl (Nat.zero_le _)
theorem words_l (a : List Int) (ha : a.length ≤ 1048576) : ∀ (d i : Nat), a.length - i = d → i ≤ a.length → Evt (fun k => r01_Words.c6 k a a (i : Int)) true := by
 intro d
 induction d with
 | zero =>
  intro i hd hi
  exact Evt.step (f := fun _ => some true) (fun k => by rw [r01_Words.c6, if_neg (by simp; omega)]) (Evt.some _)
 | succ d ih =>
  intro i hd hi
  exact Evt.step (fun k => by rw [r01_Words.c6, if_pos (decide_eq_true (by omega)), if_pos (by omega), if_pos (by omega), if_pos (by omega), if_pos (by omega), if_neg (by simp), i64w (by omega) (by omega)]; rfl) (ih (i + 1) (by omega) (by omega))
theorem words_same (a : List Int) (ha : a.length ≤ 1048576) : Evt (fun k => r01_Words.f k a a) true := by
 have := words_l a ha a.length 0 (by omega) (by omega)
 exact Evt.congr this (fun k => by unfold r01_Words.f; rw [if_neg (by simp)]; rfl)
theorem same_l (a : List Obj) (ha : a.length ≤ 1048576) (hd : ∀ o ∈ a, o.f1.length ≤ 1048576) : ∀ (d i : Nat), a.length - i = d → i ≤ a.length → Evt (fun k => r16_Same.c6 k a a (i : Int)) true := by
 intro d
 induction d with
 | zero =>
  intro i hd hi
  exact Evt.step (f := fun _ => some true) (fun k => by rw [r16_Same.c6, if_neg (by simp; omega)]) (Evt.some _)
 | succ d ih =>
  intro i hd' hi
  have hlt : i < a.length := by omega
  refine Evt.step (f := fun k => (r01_Words.f k a[i].f1 a[i].f1).bind fun y0 => (if (!y0) = true then (some false) else (r16_Same.c6 k a a ((i + 1 : Nat) : Int)))) (fun k => ?_) (Evt.bind (words_same _ (hd _ (List.getElem_mem hlt))) (Evt.congr (ih (i + 1) (by omega) (by omega)) (fun k => by rw [if_neg (by decide)])))
  rw [r16_Same.c6, if_pos (decide_eq_true (by omega)), if_pos (by omega), if_pos (by omega), if_pos (by omega), if_pos (by omega), gd a i _ hlt, if_pos (by simp), if_pos (by omega), if_pos (by omega), if_pos (by omega), if_pos (by omega), i64w (by omega) (by omega)]
  rfl
theorem same_eq (a : List Obj) (ha : a.length ≤ 1048576) (hd : ∀ o ∈ a, o.f1.length ≤ 1048576) : Evt (fun k => r16_Same.f k a a) true := by
 have := same_l a ha hd a.length 0 (by omega) (by omega)
 exact Evt.congr this (fun k => by unfold r16_Same.f; rw [if_neg (by simp)]; rfl)
theorem objs_data (hlen : x.length ≤ 1048576) : ∀ o ∈ objsL x, o.f1.length ≤ 1048576 := by
 intro o h
 unfold objsL at h
 split at h
 ·rw [List.mem_map] at h
  obtain ⟨b, hb, rfl⟩ := h
  show (dataAt x _ _).length ≤ _
  unfold dataAt
  rw [List.length_take, List.length_drop]
  omega
 ·cases h
end
end Go.Proofs.YtbbpcbjgekencaaGreatDoor.PS
end
section
set_option linter.unusedVariables false
set_option linter.unusedSimpArgs false
set_option linter.unusedVariables false
set_option maxRecDepth 100000
namespace Go.Proofs.YtbbpcbjgekencaaGreatDoor.PS
open Go Go.Proofs.YtbbpcbjgekencaaGreatDoor.Q Go.Proofs.YtbbpcbjgekencaaGreatDoor.FT Go.Proofs.YtbbpcbjgekencaaGreatDoor.Ev
theorem awake_k (k : Nat) : l16_awake.f (k + 700) = some true := by kernel_rfl
end Go.Proofs.YtbbpcbjgekencaaGreatDoor.PS
end
