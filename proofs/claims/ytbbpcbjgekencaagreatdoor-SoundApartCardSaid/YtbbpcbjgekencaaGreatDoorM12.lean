import Derived.Test.YtbbpcbjgekencaaGreatDoorM11
section
set_option linter.unusedVariables false
set_option linter.unusedSimpArgs false
set_option linter.unusedVariables false
set_option linter.unusedSimpArgs false
namespace Go.Proofs.YtbbpcbjgekencaaGreatDoor.PS
open Go Go.Proofs.YtbbpcbjgekencaaGreatDoor.Q Go.Proofs.YtbbpcbjgekencaaGreatDoor.FT Go.Proofs.YtbbpcbjgekencaaGreatDoor.Ev
def idle (x : List Int) (i : Nat) : Bool := (markT (wd x (10 + (i : Int)))).2.2.2 && (markT (wd x (10 + (i : Int)))).1 == 0
def marksV (x : List Int) (l : Int) : Bool := (List.range l.toNat).all (idle x)
def serV (x : List Int) (l : Int) (b : Blk) : Int := (hdV x l b).2.2.1
def objV (x : List Int) (l : Int) : List Int → List Blk → Bool
 | _, [] => true
 | S, b :: bs => (hdV x l b).2.2.2 && (!(S.contains (serV x l b)) && (decide (serV x l b / 4294967296 ≤ wd x 9) && objV x l (S ++ [serV x l b]) bs))
def tabC (x : List Int) (l : Int) : List Chk := (chV (tabL x l)).2
noncomputable def bsV (x : List Int) (l : Int) : List Blk := blks (tabC x l)
def tilesV (x : List Int) (l : Int) : Bool := rightV (tabL x l) && (tabC x l).all fun c => !(c.f0 == 4)
noncomputable def objsV (x : List Int) (l : Int) : Bool := objV x l [] (bsV x l) && decide (wd x 9 ≤ 4294967295)
noncomputable def rootV (x : List Int) (l : Int) : Bool := wd x 8 == 0 || (bsV x l).any fun b => placeG (x.length : Int) l b == wd x 8
noncomputable def restV (x : List Int) (l : Int) : Bool := marksV x l && (tilesV x l && (objsV x l && rootV x l))
noncomputable def soundV (x : List Int) : Bool := decide (HeadOk x (lanesOf x)) && restV x (lanesOf x)
section
variable {x : List Int} {l : Int}
theorem marks_l (hx : U64 x) (h : Geo (x.length : Int) l) : ∀ (d i : Nat), l.toNat - i = d → i ≤ l.toNat →
  Evt (fun k => sound_pool_marks.c3 k l (i : Int) x (x.length : Int) l) ((List.range' i d).all (idle x)) := by
 have hl := h.l
 have hg : 1 ≤ chunksG (x.length : Int) l := h
 intro d
 induction d with
 | zero =>
  intro i hd hi
  exact Evt.step (f := fun _ => some true) (fun k => by rw [sound_pool_marks.c3, if_neg (by simp; omega)]) (Evt.some _)
 | succ d ih =>
  intro i hd hi
  have hlt : (i : Int) < l := by omega
  rw [List.range'_succ, List.all_cons]
  have hs : ∀ k, sound_pool_marks.c3 (k + 1) l (i : Int) x (x.length : Int) l = if idle x i = true then sound_pool_marks.c3 k l ((i + 1 : Nat) : Int) x (x.length : Int) l else some false := fun k => by
   rw [sound_pool_marks.c3, if_pos (decide_eq_true hlt), geoMark_eq k _ l _ h (by omega) hlt, Option.bind_some, if_pos (by omega), if_pos (by omega), show x.getD (10 + (i : Int)).toNat 0 = wd x (10 + (i : Int)) from rfl, mark_eq k _ (wd_Wd x hx _), Option.bind_some, i64w (by omega) (by omega)]
   show (if (!(markT (wd x (10 + (i : Int)))).2.2.2) = false then if ((markT (wd x (10 + (i : Int)))).1 != 0) = true then some false else sound_pool_marks.c3 k l ((i : Int) + 1) x (x.length : Int) l else some false) = _
   unfold idle
   cases (markT (wd x (10 + (i : Int)))).2.2.2 with
   | false => simp
   | true =>
    by_cases h0 : (markT (wd x (10 + (i : Int)))).1 = 0
    ·simp [h0]
    ·simp [h0]
  cases hq : idle x i with
  | true => exact Evt.step (fun k => by rw [hs, if_pos hq]) (by rw [Bool.true_and]; exact ih (i + 1) (by omega) (by omega))
  | false => exact Evt.step (f := fun _ => some false) (fun k => by rw [hs, if_neg (by rw [hq]; decide)]) (by rw [Bool.false_and]; exact Evt.some _)
theorem marks_eq (hx : U64 x) (h : Geo (x.length : Int) l) : Evt (fun k => sound_pool_marks.f k x (x.length : Int) l) (marksV x l) := by
 have := marks_l hx h l.toNat 0 (by omega) (by omega)
 unfold marksV
 rw [List.range_eq_range']
 exact this
theorem tab_len (hlen : x.length ≤ 1048576) (h : Geo (x.length : Int) l) : (tabL x l).length ≤ 1048576 := by
 have := h.l
 have h2 := tabL_len x l h
 omega
theorem tiles_l (hx : U64 x) (h : Geo (x.length : Int) l) (hlen : x.length ≤ 1048576) (cs : List Chk) (hcs : cs.length ≤ 1048576) : ∀ (d i : Nat), cs.length - i = d → i ≤ cs.length →
  Evt (fun k => sound_pool_tiles.c4 k (cs.length : Int) (i : Int) x (x.length : Int) l cs) (((cs.drop i).all fun c => !(c.f0 == 4)) && rightV (tabL x l)) := by
 intro d
 induction d with
 | zero =>
  intro i hd hi
  obtain rfl : i = cs.length := by omega
  rw [List.drop_length, List.all_nil, Bool.true_and]
  refine Evt.step (f := fun k => (sound_pool_table.f k x (x.length : Int) l).bind fun y2 => (tile_Right.f k y2).bind fun y3 => some y3) (fun k => by rw [sound_pool_tiles.c4, if_neg (by simp)]) ?_
  refine Evt.bind (Evt.of fun k => table_eq k x l h) ?_
  exact Evt.bind (right_eqT _ (tab_len hlen h) (tabL_U64 x l hx)) (Evt.some _)
 | succ d ih =>
  intro i hd hi
  have hlt : i < cs.length := by omega
  rw [List.drop_eq_getElem_cons hlt, List.all_cons]
  by_cases h4 : cs[i].f0 = 4
  ·rw [show (cs[i].f0 == 4) = true by simpa using h4]
   exact Evt.step (f := fun _ => some false) (fun k => by rw [sound_pool_tiles.c4, if_pos (decide_eq_true (by omega)), if_pos (by omega), if_pos (by omega), if_pos (by omega), gd cs i _ hlt, if_pos (by simpa using h4)]) (Evt.some _)
  ·rw [show (cs[i].f0 == 4) = false by simpa using h4, Bool.not_false, Bool.true_and]
   exact Evt.step (fun k => by rw [sound_pool_tiles.c4, if_pos (decide_eq_true (by omega)), if_pos (by omega), if_pos (by omega), if_pos (by omega), gd cs i _ hlt, if_neg (by simpa using h4), i64w (by omega) (by omega)]; rfl) (ih (i + 1) (by omega) (by omega))
theorem tiles_eq (hx : U64 x) (h : Geo (x.length : Int) l) (hlen : x.length ≤ 1048576) : Evt (fun k => sound_pool_tiles.f k x (x.length : Int) l) (tilesV x l) := by
 unfold sound_pool_tiles.f
 refine Evt.bind (Evt.of fun k => table_eq k x l h) ?_
 refine Evt.bind (chunks_eq _ (tab_len hlen h) (tabL_U64 x l hx)) ?_
 have := tiles_l hx h hlen (chV (tabL x l)).2 (Nat.le_trans (chV_len _) (tab_len hlen h)) _ 0 rfl (Nat.zero_le _)
 unfold tilesV tabC
 rw [Bool.and_comm]
 simpa using this
theorem bs_in (hx : U64 x) (h : Geo (x.length : Int) l) (hlen : x.length ≤ 1048576) (ht : tilesV x l = true) : ∀ b ∈ bsV x l, BlkIn (chunksG (x.length : Int) l) b ∧ SzOk b := by
 unfold tilesV rightV at ht
 simp only [Bool.and_eq_true] at ht
 have hlc : (tabC x l).length = (tabL x l).length := by
  have h1 := ht.1.1
  unfold tabC
  unfold chV at h1 ⊢
  split
  ·simp
  ·rename_i hno; rw [if_neg hno] at h1; cases h1
 have := blk_in (tabC x l) (Nat.le_trans (chV_len _) (tab_len hlen h)) (chV_ok _ (tabL_U64 x l hx)) ht.1.2
 rw [hlc, tabL_len x l h] at this
 exact this
theorem bs_len (hlen : x.length ≤ 1048576) (h : Geo (x.length : Int) l) : (bsV x l).length ≤ 600000 := by
 have h1 := H.blkAll_take_len (tabC x l) (tabC x l).length (Nat.le_refl _)
 rw [List.take_length] at h1
 have h2 : (tabC x l).length ≤ (tabL x l).length := chV_len _
 have h3 := tabL_len x l h
 have h4 := h.l
 show (H.blkAll (tabC x l)).length ≤ _
 omega
theorem objs_go (hx : U64 x) (h : Geo (x.length : Int) l) : ∀ (bs : List Blk) (S : List Int), (∀ b ∈ bs, BlkIn (chunksG (x.length : Int) l) b ∧ SzOk b) →
  H.objGo x (x.length : Int) l (wd x 9) S bs = some (objV x l S bs && decide (wd x 9 ≤ 4294967295))
 | [], S, _ => by rw [H.objGo, objV, Bool.true_and]
 | b :: bs, S, hb => by
  have hh := hb b List.mem_cons_self
  rw [H.objGo, objV]
  unfold H.sound_pool_header.f
  rw [header_eq 100 x l b hx h hh.1, Option.bind_some]
  cases hok : (hdV x l b).2.2.2 with
  | false => rw [if_pos rfl, Bool.false_and, Bool.false_and]
  | true =>
   have hw : (Lit.int .u64 (hdV x l b).2.2.1).wf = true := by
    have hh2 : (headT (wd x (placeG (x.length : Int) l b)) (wd x (placeG (x.length : Int) l b + 1))).2.2.2 = true := by
     unfold hdV mkH at hok
     simp only [Bool.and_eq_true] at hok
     exact hok.1
    have e := (headT_size _ _ hh2).2.2.2.2.2
    have hW := wd_Wd x hx (placeG (x.length : Int) l b + 1)
    have e2 : (hdV x l b).2.2.1 = wd x (placeG (x.length : Int) l b + 1) := e
    rw [e2]
    have a := hW.1
    have c := hW.2
    unfold Lit.wf
    simp [IntKind.bits, IntKind.signed, IntKind.min, IntKind.max]
    omega
   rw [if_neg (by decide), if_pos hw, Bool.true_and]
   show (if serV x l b ∈ S then some false else if serV x l b / 4294967296 > wd x 9 then some false else H.objGo x (x.length : Int) l (wd x 9) (S ++ [serV x l b]) bs) = _
   by_cases hS : serV x l b ∈ S
   ·rw [if_pos hS]
    simp [hS]
   ·rw [if_neg hS]
    by_cases he : serV x l b / 4294967296 > wd x 9
    ·rw [if_pos he, show decide (serV x l b / 4294967296 ≤ wd x 9) = false by simpa using he]
     simp
    ·rw [if_neg he, objs_go hx h bs _ (fun c hc => hb c (List.mem_cons_of_mem _ hc)), show decide (serV x l b / 4294967296 ≤ wd x 9) = true by simp; omega]
     simp [hS]
theorem objects_eq (hx : U64 x) (h : Geo (x.length : Int) l) (hlen : x.length ≤ 1048576) (ht : tilesV x l = true) : Evt (fun k => H.sound_pool_objects.f k x (x.length : Int) l) (objsV x l) := by
 have hl := h.l
 have hg : 1 ≤ chunksG (x.length : Int) l := h
 unfold H.sound_pool_objects.f
 refine Evt.congr (f := fun k => ((sound_pool_table.f 100 x (x.length : Int) l).bind fun q => if q.length ≤ 9223372036854775807 then some q else none).bind fun t => (H.tile_Blocks.f k t).bind fun bs => if bs.length ≤ 1000000 then H.objGo x (x.length : Int) l (wd x 9) [] bs else none) ?_ (fun k => by rw [if_pos (by omega)]; rfl)
 rw [table_eq 100 x l h, Option.bind_some, if_pos (by have := tab_len hlen h; omega)]
 refine Evt.bind (Evt.some (tabL x l)) ?_
 have hb := blocks_eq _ (tab_len hlen h) (tabL_U64 x l hx)
 refine Evt.bind (a := bsV x l) (Evt.congr hb fun k => ?_) ?_
 ·unfold tile_Blocks.f
  rw [if_pos (by have := tab_len hlen h; omega)]
 ·refine Evt.congr (Evt.some (objsV x l)) (fun k => ?_)
  rw [if_pos (by have := bs_len hlen h; omega), objs_go hx h _ _ (bs_in hx h hlen ht)]
  rfl
theorem root_l (hx : U64 x) (h : Geo (x.length : Int) l) (r : Int) (bs : List Blk) (hlen : bs.length ≤ 1048576) (hb : ∀ b ∈ bs, BlkIn (chunksG (x.length : Int) l) b ∧ SzOk b) : ∀ (d i : Nat), bs.length - i = d → i ≤ bs.length →
  Evt (fun k => sound_pool_root.c4 k r (bs.length : Int) (i : Int) (x.length : Int) l bs) (r == 0 || (bs.drop i).any fun b => placeG (x.length : Int) l b == r) := by
 have hl := h.l
 intro d
 induction d with
 | zero =>
  intro i hd hi
  obtain rfl : i = bs.length := by omega
  rw [List.drop_length, List.any_nil, Bool.or_false]
  exact Evt.step (f := fun _ => some (r == 0)) (fun k => by rw [sound_pool_root.c4, if_neg (by simp)]) (Evt.some _)
 | succ d ih =>
  intro i hd hi
  have hlt : i < bs.length := by omega
  have hbi := hb _ (List.getElem_mem hlt)
  have hf := place_fit h hbi.1
  have hw := hbi.1.w0
  rw [List.drop_eq_getElem_cons hlt, List.any_cons]
  have hs : ∀ k, sound_pool_root.c4 (k + 1) r (bs.length : Int) (i : Int) (x.length : Int) l bs = if (placeG (x.length : Int) l bs[i] == r) = true then some true else sound_pool_root.c4 k r (bs.length : Int) ((i + 1 : Nat) : Int) (x.length : Int) l bs := fun k => by
   rw [sound_pool_root.c4, if_pos (decide_eq_true (by omega)), if_pos (by omega), if_pos (by omega), if_pos (by omega), gd bs i _ hlt, place_eq k _ l _ h hbi.1, Option.bind_some, u64w (by omega) (by omega), i64w (by omega) (by omega)]
   rfl
  cases hq : placeG (x.length : Int) l bs[i] == r with
  | true => exact Evt.step (f := fun _ => some true) (fun k => by rw [hs, if_pos hq]) ((Evt.some true).eq (by simp))
  | false => exact Evt.step (fun k => by rw [hs, if_neg (by rw [hq]; decide)]) ((ih (i + 1) (by omega) (by omega)).eq (by simp))
theorem root_eq (hx : U64 x) (h : Geo (x.length : Int) l) (hlen : x.length ≤ 1048576) (ht : tilesV x l = true) : Evt (fun k => sound_pool_root.f k x (x.length : Int) l) (rootV x l) := by
 have hl := h.l
 have hg : 1 ≤ chunksG (x.length : Int) l := h
 unfold sound_pool_root.f
 refine Evt.congr (f := fun k => (sound_pool_table.f k x (x.length : Int) l).bind fun y0 => (tile_Blocks.f k y0).bind fun y1 => sound_pool_root.c4 k (wd x 8) (y1.length : Int) 0 (x.length : Int) l y1) ?_ (fun k => by rw [if_pos (by omega)]; rfl)
 refine Evt.bind (Evt.of fun k => table_eq k x l h) ?_
 refine Evt.bind (a := bsV x l) (blocks_eq _ (tab_len hlen h) (tabL_U64 x l hx)) ?_
 have := root_l hx h (wd x 8) (bsV x l) (by have := bs_len hlen h; omega) (bs_in hx h hlen ht) _ 0 rfl (Nat.zero_le _)
 simpa [rootV] using this
noncomputable def openV (x : List Int) : List Int × Int × Int × Bool := if soundV x = true then (x, (x.length : Int), lanesOf x, true) else ([], 0, 0, false)
theorem open_eq (hx : U64 x) (hlen : x.length ≤ 1048576) : Evt (fun k => H.sound_open.f k x) (openV x) := by
 unfold H.sound_open.f
 rw [super_eq x hx hlen]
 refine Evt.bind (Evt.some (superT x)) ?_
 unfold openV soundV superT
 by_cases hh : HeadOk x (lanesOf x)
 ·have hg := hh.1
  rw [if_pos hh, decide_eq_true hh, Bool.true_and]
  refine Evt.congr (f := fun k => H.rest0 k x (x.length : Int) (lanesOf x)) ?_ (fun k => by rw [if_neg (by simp)])
  unfold H.rest0 restV
  refine Evt.bind (marks_eq hx hg) ?_
  cases marksV x (lanesOf x) with
  | false => exact Evt.congr (Evt.some _) (fun k => by rw [if_pos rfl]; rfl)
  | true =>
   refine Evt.congr (f := fun k => H.rest1 k x (x.length : Int) (lanesOf x)) ?_ (fun k => by rw [if_neg (by decide)])
   unfold H.rest1 H.sound_pool_tiles.f
   refine Evt.bind (tiles_eq hx hg hlen) ?_
   cases ht : tilesV x (lanesOf x) with
   | false => exact Evt.congr (Evt.some _) (fun k => by rw [if_pos rfl]; rfl)
   | true =>
    refine Evt.congr (f := fun k => H.rest2 k x (x.length : Int) (lanesOf x)) ?_ (fun k => by rw [if_neg (by decide)])
    unfold H.rest2
    refine Evt.bind (objects_eq hx hg hlen ht) ?_
    cases objsV x (lanesOf x) with
    | false => exact Evt.congr (Evt.some _) (fun k => by rw [if_pos rfl]; rfl)
    | true =>
     refine Evt.congr (f := fun k => H.rest3 k x (x.length : Int) (lanesOf x)) ?_ (fun k => by rw [if_neg (by decide)])
     unfold H.rest3 H.sound_pool_root.f
     refine Evt.bind (root_eq hx hg hlen ht) ?_
     cases rootV x (lanesOf x) with
     | false => exact Evt.congr (Evt.some _) (fun k => by rw [if_pos rfl]; rfl)
     | true => exact Evt.congr (Evt.some _) (fun k => by rw [if_neg (by decide)]; rfl)
 ·rw [if_neg hh, decide_eq_false hh, Bool.false_and]
  exact Evt.congr (Evt.some _) (fun k => by rw [if_pos (by simp)]; rfl)
theorem openE (hx : U64 x) (hlen : x.length ≤ 1048576) : Evt (fun k => sound_open.f k x) (openV x) := by
 unfold sound_open.f
 exact Evt.congr (open_eq hx hlen) (fun k => by rw [if_pos (by omega)])
noncomputable def errV (x : List Int) : Int := if soundV x = true then 0 else 7
theorem sound_eq (hx : U64 x) (hlen : x.length ≤ 1048576) : Evt (fun k => sound_Sound.f k x) (errV x) := by
 unfold sound_Sound.f
 refine Evt.bind (openE hx hlen) ?_
 unfold openV errV
 cases soundV x with
 | true => exact Evt.congr (Evt.some _) (fun k => by simp)
 | false => exact Evt.congr (Evt.some _) (fun k => by simp)
end
end Go.Proofs.YtbbpcbjgekencaaGreatDoor.PS
end
section
set_option linter.unusedVariables false
set_option linter.unusedSimpArgs false
set_option linter.unusedVariables false
set_option linter.unusedSimpArgs false
namespace Go.Proofs.YtbbpcbjgekencaaGreatDoor.PS
open Go Go.Proofs.YtbbpcbjgekencaaGreatDoor.Q Go.Proofs.YtbbpcbjgekencaaGreatDoor.FT Go.Proofs.YtbbpcbjgekencaaGreatDoor.Ev
abbrev Obj := S64
section
variable {x : List Int} {l : Int}
def dataAt (x : List Int) (a s : Int) : List Int := List.take s.toNat (List.drop (a + 2).toNat x)
def objOf (x : List Int) (l : Int) (b : Blk) : Obj := ⟨⟨placeG (x.length : Int) l b, (hdV x l b).1, (hdV x l b).2.2.1⟩, dataAt x (placeG (x.length : Int) l b) (hdV x l b).2.1⟩
noncomputable def objsL (x : List Int) : List Obj := if soundV x = true then (bsV x (lanesOf x)).map (objOf x (lanesOf x)) else []
theorem objV_ok : ∀ (bs : List Blk) (S : List Int), objV x l S bs = true → ∀ b ∈ bs, (hdV x l b).2.2.2 = true
 | [], _, _, _, hb => by cases hb
 | c :: bs, S, h, b, hb => by
  rw [objV] at h
  simp only [Bool.and_eq_true] at h
  rcases List.mem_cons.mp hb with rfl | hb
  ·exact h.1
  ·exact objV_ok bs _ h.2.2.2 b hb
theorem hd_size (b : Blk) (h : (hdV x l b).2.2.2 = true) : 0 ≤ (hdV x l b).2.1 ∧ (hdV x l b).2.1 + 2 ≤ b.f2 ∧ (hdV x l b).2.1 ≤ 4096 := by
 unfold hdV mkH at h ⊢
 simp only [Bool.and_eq_true, beq_iff_eq] at h ⊢
 have hz := headT_size _ _ h.1
 have hr := h.2
 unfold roomS blockS chunksS at hr
 refine ⟨hz.1, ?_, hz.2.1⟩
 rw [← hr]
 have a := hz.1
 have c := hz.2.1
 split <;> split <;> (try split) <;> (try split) <;> omega
theorem sound_parts (h : soundV x = true) : Geo (x.length : Int) (lanesOf x) ∧ tilesV x (lanesOf x) = true ∧ (∀ b ∈ bsV x (lanesOf x), (hdV x (lanesOf x) b).2.2.2 = true) := by
 unfold soundV restV objsV at h
 simp only [Bool.and_eq_true, decide_eq_true_eq] at h
 exact ⟨h.1.1, h.2.2.1, objV_ok _ _ h.2.2.2.1.1⟩
theorem objs_l (hx : U64 x) (h : Geo (x.length : Int) l) (bs : List Blk) (hlen : bs.length ≤ 1048576) (hb : ∀ b ∈ bs, (BlkIn (chunksG (x.length : Int) l) b ∧ SzOk b) ∧ (hdV x l b).2.2.2 = true) : ∀ (d i : Nat) (acc : List Obj), bs.length - i = d → i ≤ bs.length → acc.length = i →
  Evt (fun k => sound_Objects.c8 k (bs.length : Int) (i : Int) x (x.length : Int) l acc bs) (acc ++ (bs.drop i).map (objOf x l)) := by
 have hl := h.l
 intro d
 induction d with
 | zero =>
  intro i acc hd hi ha
  obtain rfl : i = bs.length := by omega
  rw [List.drop_length, List.map_nil, List.append_nil]
  exact Evt.step (f := fun _ => some acc) (fun k => by rw [sound_Objects.c8, if_neg (by simp)]) (Evt.some _)
 | succ d ih =>
  intro i acc hd hi ha
  have hlt : i < bs.length := by omega
  have hbi := hb _ (List.getElem_mem hlt)
  have hf := place_fit h hbi.1.1
  have hs := hd_size _ hbi.2
  have hn := ih (i + 1) (acc ++ [objOf x l bs[i]]) (by omega) (by omega) (by simp [ha])
  rw [List.drop_eq_getElem_cons hlt, List.map_cons, ← List.singleton_append, ← List.append_assoc]
  refine Evt.step (fun k => ?_) hn
  have htk : List.take ((x.length : Int)).toNat x = x := by rw [Int.toNat_natCast, List.take_length]
  have hdl : ((List.drop (placeG (x.length : Int) l bs[i] + 2).toNat x).length : Int) = x.length - (placeG (x.length : Int) l bs[i] + 2) := by rw [List.length_drop]; omega
  rw [sound_Objects.c8, if_pos (decide_eq_true (by omega)), if_pos (by omega), if_pos (by omega), if_pos (by omega), gd bs i _ hlt, header_eq k x l _ hx h hbi.1.1, Option.bind_some, place_eq k _ l _ h hbi.1.1, Option.bind_some]
  rw [i64w (x := placeG (x.length : Int) l bs[i] + 2) (by omega) (by omega), htk, if_pos (by omega), if_pos (by omega), if_pos (by omega), if_pos hs.1, if_pos (by omega)]
  unfold oid_Name.f
  rw [Option.bind_some]
  have hdata : List.drop (Int.toNat 0) (List.take (hdV x l bs[i]).2.1.toNat (List.drop (placeG (x.length : Int) l bs[i] + 2).toNat x)) = dataAt x (placeG (x.length : Int) l bs[i]) (hdV x l bs[i]).2.1 := rfl
  rw [hdata]
  have hdlen : (dataAt x (placeG (x.length : Int) l bs[i]) (hdV x l bs[i]).2.1).length ≤ 4096 := by unfold dataAt; rw [List.length_take]; omega
  rw [if_pos (by unfold big; omega), if_pos (by rw [List.length_singleton]; exact big_le2 (by omega)), i64w (by omega) (by omega)]
  rfl
theorem objects_eqL (hx : U64 x) (hlen : x.length ≤ 1048576) : Evt (fun k => sound_Objects.f k x) (objsL x) := by
 unfold sound_Objects.f
 refine Evt.bind (openE hx hlen) ?_
 unfold openV objsL
 cases hs : soundV x with
 | false => exact Evt.congr (Evt.some []) (fun k => by simp)
 | true =>
  obtain ⟨hg, ht, ho⟩ := sound_parts hs
  refine Evt.congr (f := fun k => (sound_pool_table.f k x (x.length : Int) (lanesOf x)).bind fun y1 => (tile_Blocks.f k y1).bind fun y2 => sound_Objects.c8 k (y2.length : Int) 0 x (x.length : Int) (lanesOf x) [] y2) ?_ (fun k => by simp)
  refine Evt.bind (Evt.of fun k => table_eq k x _ hg) ?_
  refine Evt.bind (a := bsV x (lanesOf x)) (blocks_eq _ (tab_len hlen hg) (tabL_U64 x _ hx)) ?_
  have := objs_l hx hg (bsV x (lanesOf x)) (by have := bs_len hlen hg; omega) (fun b hb => ⟨bs_in hx hg hlen ht b hb, ho b hb⟩) _ 0 [] rfl (Nat.zero_le _) rfl
  simpa using this
theorem objs_at (hx : U64 x) (hlen : x.length ≤ 1048576) (os : List Obj) (ho : os = objsL x) : (os ≠ [] → 8 < x.length) ∧ os.length ≤ 600000 ∧ ∀ o ∈ os, 0 ≤ o.f0.f0 ∧ o.f0.f0 < 1048576 := by
 subst ho
 unfold objsL
 cases hs : soundV x with
 | false => simp
 | true =>
  obtain ⟨hg, ht, _⟩ := sound_parts hs
  have hl := hg.l
  have hgg : 1 ≤ chunksG (x.length : Int) (lanesOf x) := hg
  rw [if_pos rfl]
  refine ⟨fun _ => by omega, by rw [List.length_map]; exact bs_len hlen hg, fun o h => ?_⟩
  rw [List.mem_map] at h
  obtain ⟨b, hb, rfl⟩ := h
  have hbi := bs_in hx hg hlen ht b hb
  have hf := place_fit hg hbi.1
  have hw := hbi.1.w0
  show 0 ≤ placeG (x.length : Int) (lanesOf x) b ∧ placeG (x.length : Int) (lanesOf x) b < 1048576
  omega
end
end Go.Proofs.YtbbpcbjgekencaaGreatDoor.PS
end
section
set_option linter.unusedVariables false
set_option linter.unusedSimpArgs false
set_option linter.unusedVariables false
set_option maxRecDepth 100000
namespace Go.Proofs.YtbbpcbjgekencaaGreatDoor.PS
open Go Go.Proofs.YtbbpcbjgekencaaGreatDoor.Q Go.Proofs.YtbbpcbjgekencaaGreatDoor.FT Go.Proofs.YtbbpcbjgekencaaGreatDoor.Ev
theorem awake_k (k : Nat) : l16_awake.f (k + 700) = some true := by kernel_rfl
end Go.Proofs.YtbbpcbjgekencaaGreatDoor.PS
end
section
set_option linter.unusedVariables false
set_option linter.unusedSimpArgs false
set_option linter.unusedVariables false
set_option linter.unusedSimpArgs false
namespace Go.Proofs.YtbbpcbjgekencaaGreatDoor.PS
open Go Go.Proofs.YtbbpcbjgekencaaGreatDoor.Q Go.Proofs.YtbbpcbjgekencaaGreatDoor.FT Go.Proofs.YtbbpcbjgekencaaGreatDoor.Ev
def encC (c : Chk) : Int := c.f0 + 8 * c.f1 + 32 * c.f2 + 2048 * c.f3 + 16777216 * c.f4
theorem encode_eq (k : Nat) {c : Chk} (h : OkC c) : r10_Encode.f (k + 21) c.f0 c.f1 c.f2 c.f3 c.f4 = some (encC c, 0) := by
 have hr := h.range
 unfold r10_Encode.f
 have hc : rightC c.f0 c.f1 c.f2 c.f3 c.f4 = true := h.1
 rw [refRight_eq, Option.bind_some, hc, if_neg (by decide)]
 rw [u64w (x := c.f0) (by omega) (by omega), u64w (x := c.f1) (by omega) (by omega), u64w (x := c.f2) (by omega) (by omega), u64w (x := c.f3) (by omega) (by omega)]
 rw [u64w (x := 8 * c.f1) (by omega) (by omega), u64w (x := 32 * c.f2) (by omega) (by omega), u64w (x := 2048 * c.f3) (by omega) (by omega), u64w (x := 16777216 * c.f4) (by omega) (by omega)]
 rw [u64w (x := c.f0 + 8 * c.f1) (by omega) (by omega), u64w (x := c.f0 + 8 * c.f1 + 32 * c.f2) (by omega) (by omega), u64w (x := c.f0 + 8 * c.f1 + 32 * c.f2 + 2048 * c.f3) (by omega) (by omega), u64w (x := c.f0 + 8 * c.f1 + 32 * c.f2 + 2048 * c.f3 + 16777216 * c.f4) (by omega) (by omega)]
 rfl
theorem encC_range {c : Chk} (h : OkC c) : 0 ≤ encC c ∧ encC c < 4294967296 := by
 have hr := h.range
 unfold encC
 omega
theorem decC_enc {c : Chk} (h : OkC c) : decC (encC c) = c := by
 have hr := h.range
 unfold decC encC
 obtain ⟨a, b, d, e, f⟩ := c
 simp only at hr ⊢
 congr 1 <;> omega
theorem decOk_enc {c : Chk} (h : OkC c) : decOk (encC c) = true := by
 have := encC_range h
 unfold decOk
 rw [decC_enc h, h.1, decide_eq_true (by omega)]
 rfl
theorem chV_enc (cs : List Chk) (h : ∀ c ∈ cs, OkC c) : chV (cs.map encC) = (true, cs) := by
 unfold chV
 have h1 : (cs.map encC).all decOk = true := by
  rw [List.all_eq_true]
  intro w hw
  obtain ⟨c, hc, rfl⟩ := List.mem_map.mp hw
  exact decOk_enc (h c hc)
 rw [if_pos h1, List.map_map]
 congr 1
 conv => rhs; rw [← List.map_id cs]
 exact List.map_congr_left fun c hc => decC_enc (h c hc)
theorem U64_enc (cs : List Chk) (h : ∀ c ∈ cs, OkC c) : U64 (cs.map encC) := by
 intro w hw
 obtain ⟨c, hc, rfl⟩ := List.mem_map.mp hw
 have := encC_range (h c hc)
 exact ⟨this.1, by omega⟩
def tailC : Chk := ⟨3, 0, 0, 0, 0⟩
theorem OkC_tail : OkC tailC := ⟨by decide, by decide⟩
theorem encC_tail : encC tailC = 3 := by decide
def expand (c : Chk) : List Chk := c :: List.replicate (if c.f0 = 2 then c.f3.toNat - 1 else 0) tailC
inductive Tabl : List Chk → Prop
 | nil : Tabl []
 | snoc (cs : List Chk) (c : Chk) : Tabl cs → OkC c → c.f0 ≠ 3 → Tabl (cs ++ expand c)
theorem expand_ok {c : Chk} (h : OkC c) : ∀ x ∈ expand c, OkC x := by
 intro x hx
 rcases List.mem_cons.1 hx with rfl | hx
 ·exact h
 ·rw [List.mem_replicate] at hx
  rw [hx.2]; exact OkC_tail
theorem Tabl.ok {cs : List Chk} (h : Tabl cs) : ∀ c ∈ cs, OkC c := by
 induction h with
 | nil => intro c hc; cases hc
 | snoc cs c _ h1 h2 ih =>
  intro x hx
  rcases List.mem_append.1 hx with hx | hx
  ·exact ih x hx
  ·exact expand_ok h1 x hx
theorem rightGo_tails (n : Nat) (cs : List Chk) : rightGo (n : Int) (List.replicate n tailC ++ cs) = rightGo 0 cs := by
 induction n with
 | zero => simp
 | succ n ih =>
  rw [List.replicate_succ, List.cons_append, rightGo]
  rw [if_pos (by constructor <;> intro _ <;> first | rfl | omega), if_pos (by rfl), show ((n + 1 : Nat) : Int) - 1 = (n : Int) by omega]
  exact ih
theorem rightGo_expand {c : Chk} (h : OkC c) (h3 : c.f0 ≠ 3) (cs : List Chk) : rightGo 0 (expand c ++ cs) = rightGo 0 cs := by
 unfold expand
 rw [List.cons_append, rightGo, if_pos (by constructor <;> intro h <;> omega), if_neg h3]
 by_cases h2 : c.f0 = 2
 ·have := h.huge h2
  rw [if_pos h2, if_pos h2]
  have e : c.f3 - 1 = ((c.f3.toNat - 1 : Nat) : Int) := by omega
  rw [e]
  exact rightGo_tails _ cs
 ·rw [if_neg h2, if_neg h2]
  rfl
theorem rightGo_tab {cs : List Chk} (h : Tabl cs) : ∀ ds, rightGo 0 (cs ++ ds) = rightGo 0 ds := by
 induction h with
 | nil => intro ds; rfl
 | snoc cs c _ h1 h2 ih =>
  intro ds
  rw [List.append_assoc, ih, rightGo_expand h1 h2]
theorem Tabl.right {cs : List Chk} (h : Tabl cs) : rightGo 0 cs = true := by
 have := rightGo_tab h []
 rw [List.append_nil] at this
 rw [this]; rfl
def freeC : Chk := ⟨0, 0, 0, 0, 0⟩
theorem OkC_free : OkC freeC := ⟨by decide, by decide⟩
theorem Tabl.free {cs : List Chk} (h : Tabl cs) : ∀ n : Nat, Tabl (cs ++ List.replicate n freeC)
 | 0 => by simpa using h
 | n + 1 => by
  have := Tabl.snoc _ freeC (h.free n) OkC_free (by decide)
  rw [List.replicate_succ', ← List.append_assoc]
  exact this
theorem expand_enc (c : Chk) : (expand c).map encC = encC c :: List.replicate (if c.f0 = 2 then c.f3.toNat - 1 else 0) 3 := by
 unfold expand
 rw [List.map_cons, List.map_replicate, encC_tail]
theorem made_tails (l : List Int) (most : Int) (i : Nat) (c : Chk) (hc : OkC c) (hi : i < l.length) (hl : l.length ≤ 1048576) {r : List Int} :
  ∀ (d n : Nat) (out : List Int), (if c.f0 = 2 then c.f3.toNat else 1) - n = d → 1 ≤ n → n ≤ (if c.f0 = 2 then c.f3.toNat else 1) → out.length ≤ 1048576 + n →
   Evt (fun k => r11_Made.c4 k l most ((i + 1 : Nat) : Int) (out ++ List.replicate d 3)) r → Evt (fun k => r11_Made.c23 k l most (i : Int) (n : Int) out c.f0 c.f3) r := by
 have hr := hc.range
 intro d
 induction d with
 | zero =>
  intro n out hd h1 hn ho h
  refine Evt.step (f := fun k => r11_Made.c4 k l most ((i + 1 : Nat) : Int) out) (fun k => ?_) (by simpa using h)
  rw [r11_Made.c23]
  by_cases h2 : c.f0 = 2
  ·rw [if_pos h2] at hd hn
   rw [if_pos (by simpa using h2), if_neg (by simp; omega), i64w (by omega) (by omega)]; rfl
  ·rw [if_neg (by simpa using h2), i64w (by omega) (by omega)]; rfl
 | succ d ih =>
  intro n out hd h1 hn ho h
  have h2 : c.f0 = 2 := by
   by_cases h2 : c.f0 = 2
   ·exact h2
   ·rw [if_neg h2] at hd; omega
  have hd' := hd
  have hn' := hn
  rw [if_pos h2] at hd' hn'
  refine Evt.step (f := fun k => r11_Made.c23 k l most (i : Int) ((n + 1 : Nat) : Int) (out ++ [3]) c.f0 c.f3) (fun k => ?_) (ih (n + 1) (out ++ [3]) (by omega) (by omega) (by rw [if_pos h2]; omega) (by simp; omega) ?_)
  ·rw [r11_Made.c23, if_pos (by simpa using h2), if_pos (by simp; omega), if_pos (by rw [List.length_singleton]; exact big_le2 (by omega)), i64w (by omega) (by omega)]; rfl
  ·rw [List.append_assoc]
   exact h
theorem made_lay (l : List Int) (most : Int) (i : Nat) (c : Chk) (hc : OkC c) (hi : i < l.length) (hl : l.length ≤ 1048576) (out : List Int) (ho : out.length ≤ 1048576) {r : List Int}
  (h : Evt (fun k => r11_Made.c4 k l most ((i + 1 : Nat) : Int) (out ++ (expand c).map encC)) r) :
  Evt (fun k => r11_Made.c18 k l most (i : Int) out c.f0 c.f1 c.f2 c.f3 c.f4) r := by
 refine Evt.step (f := fun k => (r10_Encode.f k c.f0 c.f1 c.f2 c.f3 c.f4).bind fun y1 => if out.length + [y1.fst].length ≤ big then r11_Made.c23 k l most (i : Int) 1 (out ++ [y1.fst]) c.f0 c.f3 else none) (fun k => by rw [r11_Made.c18]) ?_
 refine Evt.bind (Evt.at 21 fun k => encode_eq k hc) ?_
 refine Evt.congr (f := fun k => r11_Made.c23 k l most (i : Int) ((1 : Nat) : Int) (out ++ [encC c]) c.f0 c.f3) ?_ (fun k => by rw [if_pos (by rw [List.length_singleton]; exact big_le2 (by omega))]; rfl)
 have hh : 1 ≤ (if c.f0 = 2 then c.f3.toNat else 1) := by
  split
  ·have := hc.huge (by assumption); omega
  ·omega
 refine made_tails l most i c hc hi hl _ 1 (out ++ [encC c]) rfl (by omega) hh (by simp; omega) ?_
 rw [expand_enc] at h
 have e : (if c.f0 = 2 then c.f3.toNat else 1) - 1 = (if c.f0 = 2 then c.f3.toNat - 1 else 0) := by split <;> omega
 rw [e, List.append_assoc]
 exact h
def roomC (c : Chk) (n : Nat) (most : Int) : Chk := if (n : Int) + max 1 c.f3 > most ∧ c.f0 = 2 then freeC else c
theorem made_room (l : List Int) (most : Int) (i : Nat) (c : Chk) (hc : OkC c) (hi : i < l.length) (hl : l.length ≤ 1048576) (out : List Int) (ho : out.length ≤ 1048576) {r : List Int}
  (h : Evt (fun k => r11_Made.c4 k l most ((i + 1 : Nat) : Int) (out ++ (expand (roomC c out.length most)).map encC)) r) :
  Evt (fun k => r11_Made.c10 k l most (i : Int) out c.f0 c.f1 c.f2 c.f3 c.f4) r := by
 have hr := hc.range
 have e : IntKind.i64.wrap ((out.length : Int) + (mx 1 c.f3)) = (out.length : Int) + max 1 c.f3 := by
  have : mx 1 c.f3 = max 1 c.f3 := by unfold mx; split <;> omega
  rw [this, i64w (by omega) (by omega)]
 by_cases h1 : (out.length : Int) + max 1 c.f3 > most
 ·by_cases h2 : c.f0 = 2
  ·refine Evt.step (fun k => by rw [r11_Made.c10, e, if_pos (decide_eq_true h1), if_pos (by simpa using h2)]) ?_
   rw [roomC, if_pos ⟨h1, h2⟩] at h
   exact made_lay l most i freeC OkC_free hi hl out ho h
  ·refine Evt.step (fun k => by rw [r11_Made.c10, e, if_pos (decide_eq_true h1), if_neg (by simpa using h2)]) ?_
   rw [roomC, if_neg (fun h => h2 h.2)] at h
   exact made_lay l most i c hc hi hl out ho h
 ·refine Evt.step (fun k => by rw [r11_Made.c10, e, if_neg (by simpa using h1)]) ?_
  rw [roomC, if_neg (fun h => h1 h.1)] at h
  exact made_lay l most i c hc hi hl out ho h
theorem roomC_len {c : Chk} (hc : OkC c) (n : Nat) (most : Int) (h : (n : Int) < most) : ((n + (expand (roomC c n most)).length : Nat) : Int) ≤ most := by
 have hr := hc.range
 unfold roomC
 split
 ·simp [expand, freeC]; omega
 ·rename_i hx
  by_cases h2 : c.f0 = 2
  ·have : ¬ ((n : Int) + max 1 c.f3 > most) := fun h => hx ⟨h, h2⟩
   have := hc.huge h2
   simp [expand, h2]; omega
  ·simp [expand, h2]; omega
theorem roomC_ok {c : Chk} (hc : OkC c) (h3 : c.f0 ≠ 3) (n : Nat) (most : Int) : OkC (roomC c n most) ∧ (roomC c n most).f0 ≠ 3 := by
 unfold roomC
 split
 ·exact ⟨OkC_free, by decide⟩
 ·exact ⟨hc, h3⟩
def numC (n : Nat) : Chk :=
 if n % 6 = 1 ∨ n % 6 = 2 then ⟨1, ((n / 8 % 3 : Nat) : Int), 0, 0, ((n / 32 % (if n / 8 % 3 = 0 then 256 else if n / 8 % 3 = 1 then 16 else 4) : Nat) : Int)⟩
 else if n % 6 = 3 then ⟨2, 0, 0, ((1 + n / 8 % 4 : Nat) : Int), 0⟩
 else if n % 6 = 4 then ⟨1, ((n / 8 % 3 : Nat) : Int), 0, 0, 0⟩
 else if n % 6 = 5 then ⟨4, 0, ((n / 8 % 3 : Nat) : Int), ((n / 32 % 8 : Nat) : Int), 0⟩
 else freeC
theorem numC_ok (n : Nat) : OkC (numC n) ∧ (numC n).f0 ≠ 3 := by
 unfold numC OkC
 rw [okC_iff]
 split
 ·rcases (show n / 8 % 3 = 0 ∨ n / 8 % 3 = 1 ∨ n / 8 % 3 = 2 by omega) with e | e | e <;> rw [e] <;> simp <;> omega
 ·split
  ·simp; omega
  ·split
   ·simp; omega
   ·split
    ·simp; omega
    ·exact ⟨⟨by simp [freeC], by simp [freeC]⟩, by simp [freeC]⟩
theorem td8 (n : Nat) : Int.tdiv (n : Int) 8 = ((n / 8 : Nat) : Int) := by rw [Int.tdiv_eq_ediv_of_nonneg (by omega)]; omega
theorem td32 (n : Nat) : Int.tdiv (n : Int) 32 = ((n / 32 : Nat) : Int) := by rw [Int.tdiv_eq_ediv_of_nonneg (by omega)]; omega
theorem tm3 (n : Nat) : Int.tmod (n : Int) 3 = ((n % 3 : Nat) : Int) := by rw [Int.tmod_eq_emod_of_nonneg (by omega)]; omega
theorem tm4 (n : Nat) : Int.tmod (n : Int) 4 = ((n % 4 : Nat) : Int) := by rw [Int.tmod_eq_emod_of_nonneg (by omega)]; omega
theorem tm8 (n : Nat) : Int.tmod (n : Int) 8 = ((n % 8 : Nat) : Int) := by rw [Int.tmod_eq_emod_of_nonneg (by omega)]; omega
theorem tm6 (n : Nat) : Int.tmod (n : Int) 6 = ((n % 6 : Nat) : Int) := by rw [Int.tmod_eq_emod_of_nonneg (by omega)]; omega
theorem made_num (l : List Int) (most : Int) (i n : Nat) (hn2 : n ≤ 65535) (out : List Int) {r : List Int} (hj3 : Evt (fun k => r11_Made.c10 k l most (i : Int) out (numC n).f0 (numC n).f1 (numC n).f2 (numC n).f3 (numC n).f4) r) (b : Bool) (hb : b = decide (n % 6 = 1 ∨ n % 6 = 2)) :
  Evt (fun k => r11_Made.c12 k l most (i : Int) (n : Int) ((n % 6 : Nat) : Int) b out 0 0 0 0 0) r := by
 subst hb
 have w8 : IntKind.i64.wrap ((n / 8 : Nat) : Int) = ((n / 8 : Nat) : Int) := i64w (by omega) (by omega)
 have w32 : IntKind.i64.wrap ((n / 32 : Nat) : Int) = ((n / 32 : Nat) : Int) := i64w (by omega) (by omega)
 have hc3 : n / 8 % 3 = 0 ∨ n / 8 % 3 = 1 ∨ n / 8 % 3 = 2 := by omega
 by_cases h12 : n % 6 = 1 ∨ n % 6 = 2
 ·rw [decide_eq_true h12]
  have hnum : numC n = ⟨1, ((n / 8 % 3 : Nat) : Int), 0, 0, ((n / 32 % (if n / 8 % 3 = 0 then 256 else if n / 8 % 3 = 1 then 16 else 4) : Nat) : Int)⟩ := by unfold numC; rw [if_pos h12]
  rw [hnum] at hj3
  refine Evt.step (fun k => by rw [r11_Made.c12, if_pos rfl, td8, w8, tm3]) ?_
  refine Evt.bind (many_eqE _ (by omega)) ?_
  have hs : IntKind.u64.wrap (1 * 2 ^ min (H.manyW ((n / 8 % 3 : Nat) : Int)).toNat 64) = (((if n / 8 % 3 = 0 then 256 else if n / 8 % 3 = 1 then 16 else 4) : Nat) : Int) ∧ 0 ≤ H.manyW ((n / 8 % 3 : Nat) : Int) := by
   rcases hc3 with e | e | e <;> rw [e] <;> exact ⟨by decide +kernel, by decide⟩
  have hp : 0 < (if n / 8 % 3 = 0 then 256 else if n / 8 % 3 = 1 then 16 else 4) := by split <;> (try split) <;> omega
  have e2 : Int.tmod (IntKind.u64.wrap (IntKind.i64.wrap (Int.tdiv (n : Int) 32))) (((if n / 8 % 3 = 0 then 256 else if n / 8 % 3 = 1 then 16 else 4) : Nat) : Int) = ((n / 32 % (if n / 8 % 3 = 0 then 256 else if n / 8 % 3 = 1 then 16 else 4) : Nat) : Int) := by
   rw [td32, w32, u64w (by omega) (by omega), Int.tmod_eq_emod_of_nonneg (by omega)]; norm_cast
  refine Evt.congr hj3 (fun k => ?_)
  rw [if_neg (by omega), hs.1, if_neg (by omega), e2]
 ·rw [decide_eq_false h12]
  by_cases h6 : n % 6 = 3
  ·have hnum : numC n = ⟨2, 0, 0, ((1 + n / 8 % 4 : Nat) : Int), 0⟩ := by unfold numC; rw [if_neg h12, if_pos h6]
   rw [hnum] at hj3
   refine Evt.step (fun k => ?_) hj3
   rw [r11_Made.c12, if_neg (by decide), if_pos (by rw [h6]; decide), td8, w8, tm4, i64w (x := 1 + ((n / 8 % 4 : Nat) : Int)) (by omega) (by omega), show 1 + ((n / 8 % 4 : Nat) : Int) = ((1 + n / 8 % 4 : Nat) : Int) by omega]
  ·have e3 : ¬ ((((n % 6 : Nat) : Int) == 3) = true) := by simp; omega
   by_cases h7 : n % 6 = 4
   ·have hnum : numC n = ⟨1, ((n / 8 % 3 : Nat) : Int), 0, 0, 0⟩ := by unfold numC; rw [if_neg h12, if_neg h6, if_pos h7]
    rw [hnum] at hj3
    refine Evt.step (fun k => ?_) hj3
    rw [r11_Made.c12, if_neg (by decide), if_neg e3, if_pos (by rw [h7]; decide), td8, w8, tm3]
   ·have e4 : ¬ ((((n % 6 : Nat) : Int) == 4) = true) := by simp; omega
    by_cases h8 : n % 6 = 5
    ·have hnum : numC n = ⟨4, 0, ((n / 8 % 3 : Nat) : Int), ((n / 32 % 8 : Nat) : Int), 0⟩ := by unfold numC; rw [if_neg h12, if_neg h6, if_neg h7, if_pos h8]
     rw [hnum] at hj3
     refine Evt.step (fun k => ?_) hj3
     rw [r11_Made.c12, if_neg (by decide), if_neg e3, if_neg e4, if_pos (by rw [h8]; decide), td8, w8, tm3, td32, w32, tm8]
    ·have e5 : ¬ ((((n % 6 : Nat) : Int) == 5) = true) := by simp; omega
     have hnum : numC n = freeC := by unfold numC; rw [if_neg h12, if_neg h6, if_neg h7, if_neg h8]
     rw [hnum] at hj3
     refine Evt.step (fun k => ?_) hj3
     rw [r11_Made.c12, if_neg (by decide), if_neg e3, if_neg e4, if_neg e5]
     rfl
theorem made_l (Q : Chk → Prop) (q0 : Q freeC) (q3 : Q tailC) (l : List Int) (hq : ∀ x ∈ l, Q (numC x.toNat)) (most : Int) (hm : 0 ≤ most ∧ most ≤ 1000) (hl : l.length ≤ 1048576) (hu : ∀ x ∈ l, 0 ≤ x ∧ x ≤ 65535) : ∀ (d i : Nat) (cs : List Chk), l.length - i = d → i ≤ l.length → Tabl cs → (cs.length : Int) ≤ most → (∀ c ∈ cs, Q c) →
  ∃ ds, Tabl ds ∧ (ds.length : Int) ≤ most ∧ (∀ c ∈ ds, Q c) ∧ Evt (fun k => r11_Made.c4 k l most (i : Int) (cs.map encC)) (ds.map encC) := by
 intro d
 induction d with
 | zero =>
  intro i cs hd hi ht hcs hQ
  obtain rfl : i = l.length := by omega
  exact ⟨cs, ht, hcs, hQ, Evt.step (f := fun _ => some (cs.map encC)) (fun k => by rw [r11_Made.c4, if_neg (by simp)]) (Evt.some _)⟩
 | succ d ih =>
  intro i cs hd hi ht hcs hQ
  have hlt : i < l.length := by omega
  by_cases hfull : (cs.length : Int) < most
  ·obtain ⟨n, hn⟩ : ∃ n : Nat, l[i] = (n : Int) := ⟨l[i].toNat, by have := hu _ (List.getElem_mem hlt); omega⟩
   have hn2 := hu _ (List.getElem_mem hlt)
   rw [hn] at hn2
   obtain ⟨hok, h3⟩ := numC_ok n
   obtain ⟨rok, r3⟩ := roomC_ok hok h3 cs.length most
   have hlen := roomC_len hok cs.length most hfull
   have hqn : Q (numC n) := by have := hq _ (List.getElem_mem hlt); rwa [hn, Int.toNat_natCast] at this
   obtain ⟨ds, hds, hdl, hdq, hev⟩ := ih (i + 1) (cs ++ expand (roomC (numC n) cs.length most)) (by omega) (by omega) (Tabl.snoc _ _ ht rok r3) (by rw [List.length_append]; exact hlen) (fun c hc => by
    rcases List.mem_append.mp hc with hc | hc
    ·exact hQ c hc
    ·rcases List.mem_cons.mp hc with rfl | hc
     ·unfold roomC; split
      ·exact q0
      ·exact hqn
     ·rw [(List.mem_replicate.mp hc).2]; exact q3)
   refine ⟨ds, hds, hdl, hdq, ?_⟩
   rw [List.map_append] at hev
   have hj3 := made_room l most i (numC n) hok hlt hl (cs.map encC) (by rw [List.length_map]; omega) (by rw [List.length_map]; exact hev)
   have hw : IntKind.i64.wrap (n : Int) = n := i64w (by omega) (by omega)
   by_cases h1 : n % 6 = 1
   ·refine Evt.step (fun k => ?_) (made_num l most i n (by omega) (cs.map encC) hj3 true (by simp [h1]))
    rw [r11_Made.c4, if_pos (decide_eq_true (by omega)), if_pos (decide_eq_true (by rw [List.length_map]; exact hfull)), if_pos (by omega), if_pos (by omega), gd l i 0 hlt, hn, hw, tm6, if_pos (by rw [h1]; decide), show ((((n % 6 : Nat) : Int) == 1) = true) by rw [h1]; decide]
   ·refine Evt.step (fun k => ?_) (made_num l most i n (by omega) (cs.map encC) hj3 (((n % 6 : Nat) : Int) == 2) (by rw [Bool.eq_iff_iff]; simp [h1]; omega))
    rw [r11_Made.c4, if_pos (decide_eq_true (by omega)), if_pos (decide_eq_true (by rw [List.length_map]; exact hfull)), if_pos (by omega), if_pos (by omega), gd l i 0 hlt, hn, hw, tm6, if_neg (by simp; omega)]
  ·exact ⟨cs, ht, hcs, hQ, Evt.step (f := fun _ => some (cs.map encC)) (fun k => by rw [r11_Made.c4, if_pos (decide_eq_true (by omega)), if_neg (by rw [List.length_map]; simpa using hfull)]) (Evt.some _)⟩
theorem made_eq (Q : Chk → Prop) (q0 : Q freeC) (q3 : Q tailC) (l : List Int) (hq : ∀ x ∈ l, Q (numC x.toNat)) (most : Int) (hm : 0 ≤ most ∧ most ≤ 1000) (hl : l.length ≤ 1048576) (hu : ∀ x ∈ l, 0 ≤ x ∧ x ≤ 65535) : ∃ ds, Tabl ds ∧ (ds.length : Int) ≤ most ∧ (∀ c ∈ ds, Q c) ∧ Evt (fun k => r11_Made.f k l most) (ds.map encC) :=
 made_l Q q0 q3 l hq most hm hl hu l.length 0 [] (by omega) (by omega) .nil (by simp; omega) (fun c hc => by cases hc)
end Go.Proofs.YtbbpcbjgekencaaGreatDoor.PS
end
