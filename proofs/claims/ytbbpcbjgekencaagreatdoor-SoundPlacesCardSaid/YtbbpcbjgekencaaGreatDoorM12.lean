import Derived.Test.YtbbpcbjgekencaaGreatDoorM11
import Derived.ChangeSame
import Derived.ChangeVars
import Derived.Deep.Fields
import Derived.Deep.Slices
import Derived.JoinedOf
import Derived.LaidLaws
import Derived.SizedLaws
import Derived.Test.YtbbpcbjgekencaaGreatDoorRows
import Derived.WideShapes
section
set_option linter.unusedVariables false
set_option linter.unusedSimpArgs false
set_option linter.unusedVariables false
set_option linter.unusedSimpArgs false
namespace Go.Proofs.YtbbpcbjgekencaaGreatDoor.PS
open Go Go.Proofs.YtbbpcbjgekencaaGreatDoor.Q Go.Proofs.YtbbpcbjgekencaaGreatDoor.FT Go.Proofs.YtbbpcbjgekencaaGreatDoor.Ev
def oneV (L : List Int) (i : Nat) : Int := L.getD (i % L.length) 0
def B8 (L : List Int) : Prop := ∀ x ∈ L, 0 ≤ x ∧ x ≤ 255
theorem oneV_rng {L : List Int} (h : B8 L) (i : Nat) : 0 ≤ oneV L i ∧ oneV L i ≤ 255 := by
 unfold oneV
 rw [List.getD_eq_getElem?_getD]
 cases e : L[i % L.length]? with
 | none => exact ⟨by decide, by decide⟩
 | some v => exact h v (List.mem_of_getElem? e)
theorem one_eq (k : Nat) {L : List Int} (h : B8 L) (hl : L.length ≤ 1048576) (i : Nat) : r16_one.f k L (i : Int) = some (oneV L i) := by
 have hr := oneV_rng h i
 unfold r16_one.f
 by_cases h0 : L.length = 0
 ·obtain rfl := List.length_eq_zero_iff.mp h0
  rfl
 ·have hp : i % L.length < L.length := Nat.mod_lt _ (by omega)
  have ht : Int.tmod (i : Int) (L.length : Int) = ((i % L.length : Nat) : Int) := by rw [Int.tmod_eq_emod_of_nonneg (by omega)]; norm_cast
  rw [if_neg (by rw [beq_iff_eq]; omega), if_neg (by omega), ht, if_pos (by omega), if_pos (by omega), Int.toNat_natCast]
  show some (IntKind.i64.wrap (oneV L i)) = _
  rw [i64w (by omega) (by omega)]
def sizeS (w o : Int) : Int := if w = 4 then 2 - o % 3 else if w = 8 then 6 - o % 4 else if w = 16 then 14 - o % 8 else w - 2 - o % 16
def hdW (T L : List Int) (b : Blk) (i : Nat) : Int := 18038886832455811072 + 65536 * sizeS b.f2 (oneV L i) + (1 + oneV T i)
def serW (E : Int) (i : Nat) : Int := 4294967296 * E + ((i : Int) + 1)
def layB (w l E R : Int) (T L x : List Int) (b : Blk) (i : Nat) : List Int :=
 if R = (i : Int) + 1 then ((x.set (placeG w l b).toNat (hdW T L b i)).set (placeG w l b + 1).toNat (serW E i)).set 8 (placeG w l b)
 else (x.set (placeG w l b).toNat (hdW T L b i)).set (placeG w l b + 1).toNat (serW E i)
def layG (w l E R : Int) (T L : List Int) : List Int → Nat → List Blk → List Int
 | x, _, [] => x
 | x, i, b :: bs => layG w l E R T L (layB w l E R T L x b i) (i + 1) bs
theorem layB_len (w l E R : Int) (T L x : List Int) (b : Blk) (i : Nat) : (layB w l E R T L x b i).length = x.length := by unfold layB; split <;> simp
theorem sizeS_rng {b : Blk} (hs : SzOk b) {n : Int} (hn : n ≤ 128) (hb : BlkIn n b) {o : Int} (ho : 0 ≤ o ∧ o ≤ 255) : 0 ≤ sizeS b.f2 o ∧ sizeS b.f2 o + 2 ≤ b.f2 ∧ sizeS b.f2 o ≤ 4096 ∧ roomS (sizeS b.f2 o) = b.f2 := by
 have hfit := hb.fit
 have hm := hb.mul
 have h0 := hb.c0
 unfold roomS blockS chunksS sizeS
 rcases hs with (h | h | h) | ⟨_, m, hm1, h⟩
 ·rw [h]; simp only [if_pos]; omega
 ·rw [h]; simp only [if_pos, if_neg (show ¬ (8 : Int) = 4 by decide)]; split <;> (try split) <;> omega
 ·rw [h]; simp only [if_pos, if_neg (show ¬ (16 : Int) = 4 by decide), if_neg (show ¬ (16 : Int) = 8 by decide)]; split <;> (try split) <;> (try split) <;> omega
 ·rw [h, if_neg (by omega), if_neg (by omega), if_neg (by omega)]
  rw [h] at hfit hm
  omega
theorem stocked_l (T L : List Int) (hT : B8 T) (hL : B8 L) (hTl : T.length ≤ 1048576) (hLl : L.length ≤ 1048576) (w l E R : Int) (hE : 0 ≤ E ∧ E < 4294967296) (hR : 0 ≤ R ∧ R ≤ 255) (hg : Geo w l) (hn : chunksG w l ≤ 128) (hw : w ≤ 1048576)
  (bs : List Blk) (hlen : bs.length ≤ 1048576) (hb : ∀ b ∈ bs, BlkIn (chunksG w l) b ∧ SzOk b) : ∀ (d i : Nat) (x : List Int), bs.length - i = d → i ≤ bs.length → (x.length : Int) = w →
  Evt (fun k => r16_Stocked.c15 k (i : Int) T L E R x w l bs) (layG w l E R T L x i (bs.drop i)) := by
 intro d
 induction d with
 | zero =>
  intro i x hd hi hx
  obtain rfl : i = bs.length := by omega
  rw [List.drop_length]
  exact Evt.step (f := fun _ => some x) (fun k => by rw [r16_Stocked.c15, if_neg (by simp)]) (Evt.some _)
 | succ d ih =>
  intro i x hd hi hx
  have hlt : i < bs.length := by omega
  obtain ⟨hbi, hsz⟩ := hb _ (List.getElem_mem hlt)
  have ho := oneV_rng hL i
  have hty := oneV_rng hT i
  have hs := sizeS_rng hsz hn hbi ho
  have hf := place_fit (x := x) (l := l) (b := bs[i]) (by rw [hx]; exact hg) (by rw [hx]; exact hbi)
  rw [hx] at hf
  have hnx := ih (i + 1) (layB w l E R T L x bs[i] i) (by omega) (by omega) (by rw [layB_len]; exact hx)
  rw [List.drop_eq_getElem_cons hlt]
  show Evt _ (layG w l E R T L (layB w l E R T L x bs[i] i) (i + 1) (bs.drop (i + 1)))
  generalize hb' : bs[i] = b at hbi hsz hs hf hnx
  have hw4 := hbi.w0
  have hwm := hbi.fit
  have hmul := hbi.mul
  have hc0 := hbi.c0
  have hl1 := hg.l
  -- the last step
  have h18 : Evt (fun k => r16_Stocked.c18 k (i : Int) T L E R (layB w l E R T L x b i) w l bs) (layG w l E R T L (layB w l E R T L x b i) (i + 1) (bs.drop (i + 1))) :=
   Evt.step (fun k => by rw [r16_Stocked.c18, i64w (by omega) (by omega)]; rfl) hnx
  have h27 : Evt (fun k => r16_Stocked.c27 k (i : Int) (sizeS b.f2 (oneV L i)) T L E R x w l bs b.f0 b.f1 b.f2) (layG w l E R T L (layB w l E R T L x b i) (i + 1) (bs.drop (i + 1))) := by
   have hp0 := hf.1
   have hp1 := hf.2
   generalize hS : sizeS b.f2 (oneV L i) = S at hs
   refine Evt.step (f := fun k => (r16_Place.f k w l b.f0 b.f1 b.f2).bind fun y9 => if 0 ≤ y9 then if y9 < (x.length : Int) then if y9.toNat < x.length then if 0 ≤ IntKind.i64.wrap (y9 + 1) then if IntKind.i64.wrap (y9 + 1) < ((x.set y9.toNat (18038886832455811072 + 65536 * S + (1 + oneV T i))).length : Int) then if (IntKind.i64.wrap (y9 + 1)).toNat < (x.set y9.toNat (18038886832455811072 + 65536 * S + (1 + oneV T i))).length then if (IntKind.i64.wrap R == IntKind.i64.wrap ((i : Int) + 1)) = true then if 8 < (((x.set y9.toNat (18038886832455811072 + 65536 * S + (1 + oneV T i))).set (IntKind.i64.wrap (y9 + 1)).toNat (serW E i)).length : Int) then if Int.toNat 8 < ((x.set y9.toNat (18038886832455811072 + 65536 * S + (1 + oneV T i))).set (IntKind.i64.wrap (y9 + 1)).toNat (serW E i)).length then r16_Stocked.c18 k (i : Int) T L E R (((x.set y9.toNat (18038886832455811072 + 65536 * S + (1 + oneV T i))).set (IntKind.i64.wrap (y9 + 1)).toNat (serW E i)).set 8 (IntKind.u64.wrap y9)) w l bs else none else none else r16_Stocked.c18 k (i : Int) T L E R ((x.set y9.toNat (18038886832455811072 + 65536 * S + (1 + oneV T i))).set (IntKind.i64.wrap (y9 + 1)).toNat (serW E i)) w l bs else none else none else none else none else none else none) (fun k => ?_) ?_
   ·rw [r16_Stocked.c27, one_eq k hT hTl i]
    simp only [Option.bind_some]
    have e1 : IntKind.u64.wrap (IntKind.u64.wrap (4294967296 * IntKind.u64.wrap E) + IntKind.u64.wrap (IntKind.i64.wrap ((i : Int) + 1))) = serW E i := by
     unfold serW
     rw [i64w (x := (i : Int) + 1) (by omega) (by omega), u64w (x := E) (by omega) (by omega), u64w (x := 4294967296 * E) (by omega) (by omega), u64w (x := (i : Int) + 1) (by omega) (by omega), u64w (by omega) (by omega)]
    have e2 : r08_Encode.f k (IntKind.i64.wrap (1 + oneV T i)) S (serW E i) = some (0, [18038886832455811072 + 65536 * S + (1 + oneV T i), serW E i]) := by
     unfold r08_Encode.f
     rw [i64w (x := 1 + oneV T i) (by omega) (by omega), refOidRight_eq]
     have e : rightH (1 + oneV T i) S (serW E i) = true := by unfold rightH serW; exact decide_eq_true (by omega)
     rw [e, Option.bind_some, if_neg (by decide), u64w (x := S) (by omega) (by omega), u64w (x := 65536 * S) (by omega) (by omega), u64w (x := 18038886832455811072 + 65536 * S) (by omega) (by omega), u64w (x := 1 + oneV T i) (by omega) (by omega), u64w (by omega) (by omega)]
    rw [e1, e2]
    simp only [Option.bind_some]
    rfl
   ·refine Evt.bind (Evt.at 2000 fun k => refPlace_eq k w l b hg hbi) ?_
    have hl8 : 8 < x.length := by omega
    refine Evt.congr h18 (fun k => ?_)
    rw [i64w (x := placeG w l b + 1) (by omega) (by omega), if_pos hp0, if_pos (by omega), if_pos (by omega), if_pos (by omega), if_pos (by rw [List.length_set]; omega), if_pos (by rw [List.length_set]; omega), i64w (x := R) (by omega) (by omega), i64w (x := (i : Int) + 1) (by omega) (by omega)]
    unfold layB hdW
    rw [hS]
    by_cases hr : R = (i : Int) + 1
    ·rw [if_pos (by simpa using hr), if_pos hr, if_pos (by simp; omega), if_pos (by simp; omega), u64w (by omega) (by omega)]
    ·rw [if_neg (by simpa using hr), if_neg hr]
  have hsz2 : ∀ {a : Int}, 0 ≤ a → a ≤ 4094 → ∀ {n : Int}, 0 < n → n ≤ 16 → IntKind.i64.wrap (a - Int.tmod (oneV L i) n) = a - oneV L i % n := fun {a} ha ha2 {n} hn0 hn1 => by
   rw [Int.tmod_eq_emod_of_nonneg ho.1]
   have := Int.emod_nonneg (oneV L i) (show n ≠ 0 by omega)
   have := Int.emod_lt_of_pos (oneV L i) hn0
   exact i64w (by omega) (by omega)
  have hw2 : IntKind.i64.wrap (b.f2 - 2) = b.f2 - 2 := i64w (by omega) (by omega)
  have hbig : b.f2 ≤ 4096 := by omega
  have h25 : Evt (fun k => r16_Stocked.c25 k (i : Int) (if b.f2 ≥ 32 then b.f2 - 2 else sizeS b.f2 (oneV L i)) T L E R x w l bs b.f0 b.f1 b.f2) (layG w l E R T L (layB w l E R T L x b i) (i + 1) (bs.drop (i + 1))) := by
   refine Evt.step (fun k => ?_) h27
   rw [r16_Stocked.c25]
   by_cases h32 : b.f2 ≥ 32
   ·rw [if_pos (decide_eq_true h32), if_pos h32, one_eq k hL hLl i, Option.bind_some, hsz2 (by omega) (by omega) (by omega) (by omega)]
    unfold sizeS
    rw [if_neg (by omega), if_neg (by omega), if_neg (by omega)]
   ·rw [if_neg (by simpa using h32), if_neg h32]
  have h23 : Evt (fun k => r16_Stocked.c23 k (i : Int) (if b.f2 ≥ 16 then b.f2 - 2 else sizeS b.f2 (oneV L i)) T L E R x w l bs b.f0 b.f1 b.f2) (layG w l E R T L (layB w l E R T L x b i) (i + 1) (bs.drop (i + 1))) := by
   refine Evt.step (fun k => ?_) h25
   rw [r16_Stocked.c23]
   by_cases h16 : b.f2 = 16
   ·rw [if_pos (by simpa using h16), if_pos (by omega), if_neg (by omega), one_eq k hL hLl i, Option.bind_some, hsz2 (by omega) (by omega) (by omega) (by omega)]
    unfold sizeS
    rw [if_neg (by omega), if_neg (by omega), if_pos h16, h16]
    rfl
   ·rw [if_neg (by simpa using h16)]
    by_cases h32 : b.f2 ≥ 32
    ·rw [if_pos h32, if_pos (by omega)]
    ·rw [if_neg h32, if_neg (by rcases hsz with h | ⟨_, m, hm, h⟩ <;> omega)]
  have h21 : Evt (fun k => r16_Stocked.c21 k (i : Int) (if b.f2 ≥ 8 then b.f2 - 2 else sizeS b.f2 (oneV L i)) T L E R x w l bs b.f0 b.f1 b.f2) (layG w l E R T L (layB w l E R T L x b i) (i + 1) (bs.drop (i + 1))) := by
   refine Evt.step (fun k => ?_) h23
   rw [r16_Stocked.c21]
   by_cases h8 : b.f2 = 8
   ·rw [if_pos (by simpa using h8), if_pos (by omega), if_neg (by omega), one_eq k hL hLl i, Option.bind_some, hsz2 (by omega) (by omega) (by omega) (by omega)]
    unfold sizeS
    rw [if_neg (by omega), if_pos h8, h8]
    rfl
   ·rw [if_neg (by simpa using h8)]
    by_cases h32 : b.f2 ≥ 16
    ·rw [if_pos h32, if_pos (by omega)]
    ·rw [if_neg h32, if_neg (by rcases hsz with h | ⟨_, m, hm, h⟩ <;> omega)]
  refine Evt.step (fun k => ?_) h21
  rw [r16_Stocked.c15, if_pos (decide_eq_true (by omega)), if_pos (by omega), if_pos (by omega), if_pos (by omega), gd bs i _ hlt, hb']
  by_cases h4 : b.f2 = 4
  ·rw [if_pos (by simpa using h4), if_neg (by omega), one_eq k hL hLl i, Option.bind_some, hw2, hsz2 (by omega) (by omega) (by omega) (by omega)]
   unfold sizeS
   rw [if_pos h4, h4]
   rfl
  ·rw [if_neg (by simpa using h4), hw2, if_pos (by rcases hsz with h | ⟨_, m, hm, h⟩ <;> omega)]
def noLog (t : List Int) : List Int := t.filter fun n => Int.tmod n 6 != 5
theorem noLog_Q {t : List Int} (ht : ∀ x ∈ t, 0 ≤ x ∧ x ≤ 65535) : ∀ x ∈ noLog t, (numC x.toNat).f0 ≠ 4 := by
 intro x hx
 unfold noLog at hx
 rw [List.mem_filter] at hx
 have hr := ht x hx.1
 have h5 : ¬ Int.tmod x 6 = 5 := by simpa using hx.2
 rw [Int.tmod_eq_emod_of_nonneg hr.1] at h5
 have h5 : ¬ x.toNat % 6 = 5 := by omega
 unfold numC
 split
 ·show (1 : Int) ≠ 4; decide
 ·split
  ·show (2 : Int) ≠ 4; decide
  ·split
   ·show (1 : Int) ≠ 4; decide
   ·decide
structure StockArgs (a b : Int) (t T L : List Int) (E R : Int) (F : List Int) : Prop where
 ha : 0 ≤ a
 hb : 0 ≤ b
 ht : ∀ x ∈ t, 0 ≤ x ∧ x ≤ 65535
 tl : t.length ≤ 1048576
 hT : B8 T
 Tl : T.length ≤ 1048576
 hL : B8 L
 Ll : L.length ≤ 1048576
 hE : 0 ≤ E ∧ E < 4294967296
 hR : 0 ≤ R ∧ R ≤ 255
 hF : U64 F
 Fl : F.length ≤ 1048576
theorem geoW_rng (a b : Int) : Geo (geoW a b) (geoL a) ∧ chunksG (geoW a b) (geoL a) ≤ 8 ∧ geoW a b ≤ 1048576 ∧ 0 ≤ geoW a b := by
 have e := geoW_chunks a b
 refine ⟨?_, ?_, ?_, ?_⟩
 ·unfold Geo; rw [e]; unfold geoN; omega
 ·rw [e]; unfold geoN; omega
 ·unfold geoW geoL geoN; omega
 ·unfold geoW geoL geoN; omega
theorem blks_len (ds : List Chk) : (blks ds).length ≤ 65 * ds.length := by
 unfold blks H.blkAll
 rw [List.length_flatMap]
 have : ∀ (l : List (Chk × Nat)), (l.map fun p => (H.blkOne p.2 p.1).length).sum ≤ 65 * l.length := by
  intro l
  induction l with
  | nil => simp
  | cons p l ih =>
   have h1 : (H.blkOne p.2 p.1).length ≤ 65 := by
    unfold H.blkOne
    rw [List.length_append, List.length_map]
    have h2 : (H.huge p.2 p.1.f0 p.1.f3).length ≤ 1 := by unfold H.huge; split <;> simp
    have h3 : (H.onesI p.1.f4 (H.manyW p.1.f1)).length ≤ 64 := by
     unfold H.onesI H.ones
     rw [List.length_map]
     refine Nat.le_trans (List.length_filter_le _ _) ?_
     rw [List.length_range]
     have : (H.manyW p.1.f1) ≤ 64 := by unfold H.manyW; split <;> omega
     omega
    omega
   simp only [List.map_cons, List.sum_cons, List.length_cons]
   omega
 have h := this ds.zipIdx
 rwa [List.length_zipIdx] at h
theorem stocked_4 (a b : Int) (t T L : List Int) (E R : Int) (F : List Int) (h : StockArgs a b t T L E R F) {r : List Int}
  (hr : Evt (fun k => ((r15_Make.f k a b (noLog t) F [] 0 E []).bind fun y0 => ((r15_Geometry.f k a b (noLog t) F [] 0 E []).bind fun y1 => ((r05_Table.f k y1.fst y1.snd).bind fun y2 => ((r15_Part.f k y0 y2.fst y2.snd).bind fun y3 => ((r11_Blocks.f k y3).bind fun y4 => r16_Stocked.c15 k 0 T L E R y0 y1.fst y1.snd y4)))))) r) : ∀ (d i : Nat), t.length - i = d → i ≤ t.length →
  Evt (fun k => r16_Stocked.c4 k (i : Int) a b t T L E R F (noLog (t.take i))) r := by
 have htl := h.tl
 intro d
 induction d with
 | zero =>
  intro i hd hi
  obtain rfl : i = t.length := by omega
  rw [List.take_length]
  exact Evt.step (fun k => by rw [r16_Stocked.c4, if_neg (by simp), u64w h.hE.1 (by have := h.hE.2; omega)]) hr
 | succ d ih =>
  intro i hd hi
  have hlt : i < t.length := by omega
  have hn := ih (i + 1) (by omega) (by omega)
  have hlen : (noLog (t.take i)).length ≤ t.length := Nat.le_trans (List.length_filter_le _ _) (by rw [List.length_take]; omega)
  have h7 : Evt (fun k => r16_Stocked.c7 k (i : Int) a b t T L E R F (noLog (t.take (i + 1)))) r :=
   Evt.step (fun k => by rw [r16_Stocked.c7, i64w (by omega) (by omega)]; rfl) hn
  refine Evt.step (fun k => ?_) h7
  have e : noLog (t.take (i + 1)) = noLog (t.take i) ++ (if (Int.tmod t[i] 6 != 5) = true then [t[i]] else []) := by
   unfold noLog
   rw [List.take_succ_eq_append_getElem hlt, List.filter_append]
   congr 1
   show List.filter _ [t[i]] = _
   rw [List.filter_cons, List.filter_nil]
  rw [r16_Stocked.c4, if_pos (decide_eq_true (by omega)), if_pos (by omega), if_pos (by omega), gd t i 0 hlt, e]
  by_cases h5 : (Int.tmod t[i] 6 != 5) = true
  ·rw [if_pos h5, if_pos h5, if_pos (by omega), if_pos (by omega), if_pos (by rw [List.length_singleton]; exact big_le (by omega))]
  ·rw [if_neg h5, if_neg h5, List.append_nil]
theorem stocked_eq {a b : Int} {t T L : List Int} {E R : Int} {F : List Int} (h : StockArgs a b t T L E R F) :
  ∃ x ds, Pool0 x (geoL a) ds 0 E ∧ (x.length : Int) = geoW a b ∧ (∀ c ∈ ds, c.f0 ≠ 4) ∧ Evt (fun k => r16_Stocked.f k a b t T L E R F) (layG (geoW a b) (geoL a) E R T L x 0 (blks ds)) := by
 have hE := h.hE
 obtain ⟨hg, hn, hw, hw0⟩ := geoW_rng a b
 have hnl : (noLog t).length ≤ 1048576 := Nat.le_trans (List.length_filter_le _ _) h.tl
 obtain ⟨x, ds, hmk, hp, hx, hq⟩ := make_eq (fun c => c.f0 ≠ 4) (by decide) (by decide) a b h.ha h.hb (noLog t) F (noLog_Q h.ht) (fun y hy => h.ht y ((List.mem_filter.mp hy).1)) hnl h.hF h.Fl 0 E ⟨by decide, by decide⟩ ⟨by omega, by omega⟩
 have hdl : (ds.length : Int) = chunksG (geoW a b) (geoL a) := by
  have h1 := tabL_len x (geoL a) hp.geo
  rw [hp.tab, List.length_map, hx] at h1
  exact h1
 refine ⟨x, ds, hp, hx, hq, ?_⟩
 have h4 := stocked_4 a b t T L E R F h (r := layG (geoW a b) (geoL a) E R T L x 0 (blks ds)) ?_ t.length 0 (by omega) (by omega)
 ·exact Evt.congr h4 (fun k => by unfold r16_Stocked.f; rfl)
 ·refine Evt.bind hmk ?_
  refine Evt.bind (Evt.of fun k => geometry_eq k a b h.ha h.hb (noLog t) F [] 0 E []) ?_
  refine Evt.bind (Evt.at 2000 fun k => refTable_eq k _ _ hg) ?_
  have hpe : ∀ k, r15_Part.f k x (tabAt (geoL a)) (chunksG (geoW a b) (geoL a)) = some (ds.map encC) := fun k => by
   have := part_eq k x (geoL a) hp.geo
   rwa [hp.tab, hx] at this
  refine Evt.bind (Evt.of hpe) ?_
  have hbl := refBlocks_eq (ds.map encC) (by rw [List.length_map]; omega) (U64_enc ds hp.ds.ok)
  rw [chV_enc ds hp.ds.ok] at hbl
  refine Evt.bind hbl ?_
  have hb := blk_in ds (by omega) hp.ds.ok hp.ds.right
  rw [hdl] at hb
  have hlen := blks_len ds
  exact stocked_l T L h.hT h.hL h.Tl h.Ll _ _ E R h.hE h.hR hg (by omega) hw (blks ds) (by omega) hb (blks ds).length 0 x rfl (by omega) hx
end Go.Proofs.YtbbpcbjgekencaaGreatDoor.PS
end
section
set_option linter.unusedVariables false
set_option linter.unusedSimpArgs false
set_option linter.unusedVariables false
set_option linter.unusedSimpArgs false
namespace Go.Proofs.YtbbpcbjgekencaaGreatDoor.PS
open Go Go.Proofs.YtbbpcbjgekencaaGreatDoor.Q Go.Proofs.YtbbpcbjgekencaaGreatDoor.FT Go.Proofs.YtbbpcbjgekencaaGreatDoor.Ev
theorem layB_U64 {w l E R : Int} {T L x : List Int} {b : Blk} {i : Nat} (hx : U64 x) (h1 : Wd (hdW T L b i)) (h2 : Wd (serW E i)) (h3 : Wd (placeG w l b)) : U64 (layB w l E R T L x b i) := by
 unfold layB
 split
 ·exact U64_set (U64_set (U64_set hx _ _ h1) _ _ h2) _ _ h3
 ·exact U64_set (U64_set hx _ _ h1) _ _ h2
theorem layG_U64 (T L : List Int) (hT : B8 T) (hL : B8 L) (w l E R : Int) (hE : 0 ≤ E ∧ E < 4294967296) (hg : Geo w l) (hn : chunksG w l ≤ 128) (hw : 0 ≤ w ∧ w ≤ 1048576) : ∀ (bs : List Blk) (i : Nat) (x : List Int), (∀ b ∈ bs, BlkIn (chunksG w l) b ∧ SzOk b) → i + bs.length ≤ 1048576 → U64 x →
  U64 (layG w l E R T L x i bs) ∧ (layG w l E R T L x i bs).length = x.length
 | [], i, x, _, _, hx => ⟨hx, rfl⟩
 | b :: bs, i, x, hb, hi, hx => by
  obtain ⟨hbi, hsz⟩ := hb b List.mem_cons_self
  have hs := sizeS_rng hsz hn hbi (oneV_rng hL i)
  have hty := oneV_rng hT i
  rw [List.length_cons] at hi
  obtain ⟨W, rfl⟩ : ∃ W : Nat, w = (W : Int) := ⟨w.toNat, by omega⟩
  have hf := place_fit (x := List.replicate W (0 : Int)) (l := l) (b := b) (by rw [List.length_replicate]; exact hg) (by rw [List.length_replicate]; exact hbi)
  rw [List.length_replicate] at hf
  have hw4 := hbi.w0
  obtain ⟨r1, r2⟩ := layG_U64 T L hT hL (W : Int) l E R hE hg hn hw bs (i + 1) (layB (W : Int) l E R T L x b i) (fun b hb' => hb b (List.mem_cons_of_mem _ hb')) (by omega) (layB_U64 hx (by unfold hdW; exact ⟨by omega, by omega⟩) (by unfold serW; exact ⟨by omega, by omega⟩) ⟨by omega, by omega⟩)
  exact ⟨r1, r2.trans (layB_len ..)⟩
theorem blks_ok {x : List Int} {l root E : Int} {ds : List Chk} (hp : Pool0 x l ds root E) (hlen : x.length ≤ 1048576) : (ds.length : Int) = chunksG (x.length : Int) l ∧ ∀ b ∈ blks ds, BlkIn (chunksG (x.length : Int) l) b ∧ SzOk b := by
 have h1 := tabL_len x l hp.geo
 rw [hp.tab, List.length_map] at h1
 have hl := hp.geo.l
 refine ⟨h1, ?_⟩
 rw [← h1]
 exact blk_in ds (by omega) hp.ds.ok hp.ds.right
end Go.Proofs.YtbbpcbjgekencaaGreatDoor.PS
end
section
set_option linter.unusedVariables false
set_option linter.unusedSimpArgs false
set_option linter.unusedVariables false
set_option linter.unusedSimpArgs false
namespace Go.Proofs.YtbbpcbjgekencaaGreatDoor.PS
open Go Go.Proofs.YtbbpcbjgekencaaGreatDoor.Q Go.Proofs.YtbbpcbjgekencaaGreatDoor.FT Go.Proofs.YtbbpcbjgekencaaGreatDoor.Ev
section
variable {w l E R : Int} {T L : List Int}
theorem layB_at {x : List Int} {b : Blk} {i j : Nat} (h8 : j ≠ 8) (h0 : j ≠ (placeG w l b).toNat) (h1 : j ≠ (placeG w l b + 1).toNat) : (layB w l E R T L x b i)[j]? = x[j]? := by
 unfold layB
 split
 ·rw [List.getElem?_set_ne (Ne.symm h8), List.getElem?_set_ne (Ne.symm h1), List.getElem?_set_ne (Ne.symm h0)]
 ·rw [List.getElem?_set_ne (Ne.symm h1), List.getElem?_set_ne (Ne.symm h0)]
theorem layG_at {j : Nat} (h8 : j ≠ 8) : ∀ (bs : List Blk) (i : Nat) (x : List Int), (∀ b ∈ bs, j ≠ (placeG w l b).toNat ∧ j ≠ (placeG w l b + 1).toNat) → (layG w l E R T L x i bs)[j]? = x[j]?
 | [], _, _, _ => rfl
 | b :: bs, i, x, h => by
  rw [layG, layG_at h8 bs (i + 1) _ (fun d hd => h d (List.mem_cons_of_mem _ hd))]
  exact layB_at h8 (h b List.mem_cons_self).1 (h b List.mem_cons_self).2
theorem layB_hd {x : List Int} {b : Blk} {i : Nat} (hp : 9 ≤ placeG w l b) (hx : placeG w l b + 1 < x.length) :
  (layB w l E R T L x b i)[(placeG w l b).toNat]? = some (hdW T L b i) ∧ (layB w l E R T L x b i)[(placeG w l b + 1).toNat]? = some (serW E i) := by
 have h1 : (placeG w l b + 1).toNat ≠ (placeG w l b).toNat := by omega
 unfold layB
 split
 ·rw [List.getElem?_set_ne (by omega), List.getElem?_set_ne h1, List.getElem?_set_self (by omega), List.getElem?_set_ne (by omega), List.getElem?_set_self (by rw [List.length_set]; omega)]
  exact ⟨rfl, rfl⟩
 ·rw [List.getElem?_set_ne h1, List.getElem?_set_self (by omega), List.getElem?_set_self (by rw [List.length_set]; omega)]
  exact ⟨rfl, rfl⟩
theorem layG_hd : ∀ (bs : List Blk) (i : Nat) (x : List Int), (∀ b ∈ bs, 9 ≤ placeG w l b ∧ placeG w l b + 1 < x.length ∧ 4 ≤ b.f2) → (bs.Pairwise fun b d => hi b ≤ lo d) → ∀ (n : Nat) (h : n < bs.length),
  (layG w l E R T L x i bs)[(placeG w l bs[n]).toNat]? = some (hdW T L bs[n] (i + n)) ∧ (layG w l E R T L x i bs)[(placeG w l bs[n] + 1).toNat]? = some (serW E (i + n))
 | [], _, _, _, _, n, h => by simp at h
 | b :: bs, i, x, hb, hpw, n, h => by
  have hb0 := hb b List.mem_cons_self
  obtain ⟨hpw1, hpw2⟩ := List.pairwise_cons.mp hpw
  rw [layG]
  cases n with
  | zero =>
   simp only [List.getElem_cons_zero, Nat.add_zero]
   have hfar : ∀ d ∈ bs, placeG w l b + 4 ≤ placeG w l d := fun d hd => by
    have := hpw1 d hd
    rw [place_lo, place_lo]
    unfold hi at this
    omega
   rw [layG_at (by omega) bs (i + 1) _ (fun d hd => by have := hfar d hd; omega), layG_at (by omega) bs (i + 1) _ (fun d hd => by have := hfar d hd; omega)]
   exact layB_hd hb0.1 hb0.2.1
  | succ n =>
   have := layG_hd bs (i + 1) (layB w l E R T L x b i) (fun d hd => by rw [layB_len]; exact hb d (List.mem_cons_of_mem _ hd)) hpw2 n (by simpa using h)
   simp only [List.getElem_cons_succ]
   rw [show i + 1 + n = i + (n + 1) by omega] at this
   exact this
theorem layG_8 : ∀ (bs : List Blk) (i : Nat) (x : List Int), (∀ b ∈ bs, 9 ≤ placeG w l b) → 8 < x.length → (layG w l E R T L x i bs)[8]? = if h : (i : Int) < R ∧ R ≤ i + bs.length then some (placeG w l (bs[(R - i - 1).toNat]'(by omega))) else x[8]?
 | [], i, x, _, _ => by
  rw [dif_neg (by simp only [List.length_nil]; omega)]
  rfl
 | b :: bs, i, x, hb, hx => by
  have hb0 := hb b List.mem_cons_self
  have hn := layG_8 bs (i + 1) (layB w l E R T L x b i) (fun d hd => hb d (List.mem_cons_of_mem _ hd)) (by rw [layB_len]; exact hx)
  rw [layG, hn]
  by_cases h1 : ((i + 1 : Nat) : Int) < R ∧ R ≤ (i + 1 : Nat) + bs.length
  ·have h2 : (i : Int) < R ∧ R ≤ i + (b :: bs).length := by rw [List.length_cons]; omega
   rw [dif_pos h1, dif_pos h2]
   congr 2
   have : (R - i - 1).toNat = (R - (i + 1 : Nat) - 1).toNat + 1 := by omega
   simp only [this, List.getElem_cons_succ]
  ·rw [dif_neg h1]
   by_cases h2 : R = (i : Int) + 1
   ·have h3 : (i : Int) < R ∧ R ≤ i + (b :: bs).length := by rw [List.length_cons]; omega
    rw [dif_pos h3]
    have h0 : (R - i - 1).toNat = 0 := by omega
    simp only [h0, List.getElem_cons_zero]
    unfold layB
    rw [if_pos h2, List.getElem?_set_self (by simpa using hx)]
   ·rw [dif_neg (by rw [List.length_cons]; omega)]
    unfold layB
    rw [if_neg h2, List.getElem?_set_ne (by omega), List.getElem?_set_ne (by omega)]
end
structure Plt (y : List Int) (l : Int) (ds : List Chk) : Prop where
 geo : Geo (y.length : Int) l
 u : U64 y
 head : y.take 8 = H.headL (y.length : Int) l (chunksG (y.length : Int) l)
 marks : ∀ i : Nat, (i : Int) < l → wd y (10 + (i : Int)) = 0
 tab : tabL y l = ds.map encC
 tbl : Tabl ds
 len : (ds.length : Int) = chunksG (y.length : Int) l
 few : ds.length ≤ 8
 logs : ∀ c ∈ ds, c.f0 ≠ 4
structure Stk (y : List Int) (l : Int) (ds : List Chk) (T L : List Int) (E R : Int) : Prop extends Plt y l ds where
 epoch : wd y 9 = E
 hd : ∀ (i : Nat) (h : i < (blks ds).length), hdV y l (blks ds)[i] = (1 + oneV T i, sizeS (blks ds)[i].f2 (oneV L i), serW E i, true)
 root : wd y 8 = if h : 0 < R ∧ R ≤ (blks ds).length then placeG (y.length : Int) l ((blks ds)[(R - 1).toNat]'(by omega)) else 0
theorem headT_of {t s q : Int} (ht : 1 ≤ t ∧ t ≤ 65535) (hs : 0 ≤ s ∧ s ≤ 4096) (hq : 1 ≤ q) : headT (18038886832455811072 + 65536 * s + t) q = (t, s, q, true) := by
 have e1 : (18038886832455811072 + 65536 * s + t) % 65536 = t := by omega
 have e2 : (18038886832455811072 + 65536 * s + t) / 65536 % 65536 = s := by omega
 have e3 : (18038886832455811072 + 65536 * s + t) / 4294967296 = 4200005632 := by omega
 unfold headT
 rw [e1, e2, e3, if_pos ⟨decide_eq_true (by omega), rfl⟩]
theorem heap9 {w l : Int} (h : Geo w l) : 10 + 73 * l + chunksG w l = heapAt w l := by unfold heapAt; omega
theorem wd_eq {x y : List Int} {a : Int} (h : x[a.toNat]? = y[a.toNat]?) : wd x a = wd y a := by
 unfold wd
 rw [List.getD_eq_getElem?_getD, List.getD_eq_getElem?_getD, h]
theorem stocked_stk {a b : Int} {t T L : List Int} {E R : Int} {F : List Int} (h : StockArgs a b t T L E R F) :
  ∃ y ds, Stk y (geoL a) ds T L E R ∧ (y.length : Int) = geoW a b ∧ Evt (fun k => r16_Stocked.f k a b t T L E R F) y := by
 obtain ⟨x, ds, hp, hx, hlog, he⟩ := stocked_eq h
 obtain ⟨hg, hn, hw, hw0⟩ := geoW_rng a b
 obtain ⟨hdl, hb⟩ := blks_ok hp (by omega)
 have hbl := blks_len ds
 have hE := h.hE
 have hdl' := hdl
 rw [hx] at hdl hb
 obtain ⟨r1, r2⟩ := layG_U64 T L h.hT h.hL _ _ E R h.hE hg (by omega) ⟨hw0, hw⟩ (blks ds) 0 x hb (by omega) hp.u
 have hl1 := hg.l
 have hhp := heap9 hg
 have hpl : ∀ d ∈ blks ds, heapAt (geoW a b) (geoL a) ≤ placeG (geoW a b) (geoL a) d ∧ placeG (geoW a b) (geoL a) d + 1 < x.length ∧ 4 ≤ d.f2 := fun d hd => by
  have hbi := (hb d hd).1
  have hf := place_fit (x := x) (l := geoL a) (b := d) (by rw [hx]; exact hg) (by rw [hx]; exact hbi)
  rw [hx] at hf
  have h4 := hbi.w0
  have hm := hbi.mul
  have hc := hbi.c0
  refine ⟨by unfold placeG; omega, by omega, h4⟩
 have hpw := blks_apart ds hp.ds.ok hp.ds.right
 have hlow : ∀ j : Nat, j ≠ 8 → (j : Int) < heapAt (geoW a b) (geoL a) → (layG (geoW a b) (geoL a) E R T L x 0 (blks ds))[j]? = x[j]? := fun j h8 hj => layG_at h8 _ _ _ (fun d hd => by have := (hpl d hd).1; omega)
 have hhd := layG_hd (w := geoW a b) (l := geoL a) (E := E) (R := R) (T := T) (L := L) (blks ds) 0 x (fun d hd => ⟨by have := (hpl d hd).1; omega, (hpl d hd).2⟩) hpw
 have h8 := layG_8 (w := geoW a b) (l := geoL a) (E := E) (R := R) (T := T) (L := L) (blks ds) 0 x (fun d hd => by have := (hpl d hd).1; omega) (by omega)
 generalize layG (geoW a b) (geoL a) E R T L x 0 (blks ds) = y at he r1 r2 hlow hhd h8
 have hy : (y.length : Int) = geoW a b := by rw [r2]; exact hx
 have htab : tabAt (geoL a) + chunksG (geoW a b) (geoL a) = heapAt (geoW a b) (geoL a) := by unfold heapAt tabAt; omega
 have ht10 : 10 ≤ tabAt (geoL a) := by unfold tabAt; omega
 refine ⟨y, ds, ⟨⟨by rw [hy]; exact hg, r1, ?_, ?_, ?_, hp.ds, by rw [hy]; exact hdl, by omega, hlog⟩, ?_, ?_, ?_⟩, hy, he⟩
 ·have e : y.take 8 = x.take 8 := by
   apply List.ext_getElem?
   intro j
   rw [List.getElem?_take, List.getElem?_take]
   split
   ·exact hlow j (by omega) (by omega)
   ·rfl
  rw [e, hp.head, r2]
 ·intro i hi
  rw [← hp.marks i hi]
  exact wd_eq (hlow _ (by omega) (by omega))
 ·rw [← hp.tab]
  unfold tabL
  rw [r2, hx]
  apply List.ext_getElem?
  intro j
  rw [List.getElem?_drop, List.getElem?_take, List.getElem?_drop, List.getElem?_take]
  split
  ·exact hlow _ (by omega) (by omega)
  ·rfl
 ·rw [← hp.epoch]
  exact wd_eq (hlow 9 (by omega) (by omega))
 ·intro i hi
  have hbi := hb _ (List.getElem_mem hi)
  have ho := oneV_rng h.hL i
  have hty := oneV_rng h.hT i
  have hs := sizeS_rng hbi.2 (n := chunksG (geoW a b) (geoL a)) (by omega) hbi.1 ho
  obtain ⟨q1, q2⟩ := hhd i hi
  rw [Nat.zero_add] at q1 q2
  have w1 : wd y (placeG (y.length : Int) (geoL a) (blks ds)[i]) = hdW T L (blks ds)[i] i := by unfold wd; rw [hy, List.getD_eq_getElem?_getD, q1]; rfl
  have w2 : wd y (placeG (y.length : Int) (geoL a) (blks ds)[i] + 1) = serW E i := by unfold wd; rw [hy, List.getD_eq_getElem?_getD, q2]; rfl
  unfold hdV
  rw [w1, w2]
  unfold hdW
  rw [headT_of (by omega) ⟨hs.1, hs.2.2.1⟩ (by unfold serW; omega)]
  unfold mkH
  simp only [Bool.true_and, hs.2.2.2, beq_self_eq_true]
 ·have h80 : x[8]? = some 0 := by
   have h8l : 8 < x.length := by omega
   have := hp.root
   unfold wd at this
   rw [List.getD_eq_getElem?_getD, show (8 : Int).toNat = 8 from rfl, List.getElem?_eq_getElem h8l] at this
   rw [List.getElem?_eq_getElem h8l]
   exact congrArg some this
  unfold wd
  rw [List.getD_eq_getElem?_getD, show (8 : Int).toNat = 8 from rfl, h8, h80]
  simp only [Int.natCast_zero, Int.zero_add, Int.sub_zero, hy]
  split <;> rfl
section
variable {y : List Int} {l E R : Int} {ds : List Chk} {T L : List Int}
theorem Plt.in_ (h : Plt y l ds) : ∀ b ∈ blks ds, BlkIn (chunksG (y.length : Int) l) b ∧ SzOk b := by
 have := h.few
 rw [← h.len]
 exact blk_in ds (by omega) h.tbl.ok h.tbl.right
theorem Plt.few2 (h : Plt y l ds) : (blks ds).length ≤ 600 := by have := blks_len ds; have := h.few; omega
end
end Go.Proofs.YtbbpcbjgekencaaGreatDoor.PS
end
section
set_option linter.unusedVariables false
set_option linter.unusedSimpArgs false
set_option linter.unusedVariables false
set_option linter.unusedSimpArgs false
namespace Go.Proofs.YtbbpcbjgekencaaGreatDoor.PS
open Go Go.Proofs.YtbbpcbjgekencaaGreatDoor.Q Go.Proofs.YtbbpcbjgekencaaGreatDoor.FT Go.Proofs.YtbbpcbjgekencaaGreatDoor.Ev
def Few4 (t T L F : List Int) : Prop := t.length ≤ 20 ∧ T.length ≤ 40 ∧ L.length ≤ 40 ∧ F.length ≤ 40
theorem few_yes (k : Nat) (a b : Int) (t T L : List Int) (E R : Int) (F : List Int) (hf : Few4 t T L F) : r16_Few.f k a b t T L E R F = some true := by
 obtain ⟨h1, h2, h3, h4⟩ := hf
 unfold r16_Few.f
 rw [if_pos (decide_eq_true (by omega)), if_pos (decide_eq_true (by omega)), if_pos (decide_eq_true (by omega)), decide_eq_true (by omega)]
theorem few_no (k : Nat) (a b : Int) (t T L : List Int) (E R : Int) (F : List Int) (hf : ¬ Few4 t T L F) : r16_Few.f k a b t T L E R F = some false := by
 unfold Few4 at hf
 unfold r16_Few.f
 by_cases h1 : t.length ≤ 20
 ·rw [if_pos (decide_eq_true (by omega))]
  by_cases h2 : T.length ≤ 40
  ·rw [if_pos (decide_eq_true (by omega))]
   by_cases h3 : L.length ≤ 40
   ·rw [if_pos (decide_eq_true (by omega)), decide_eq_false (by omega)]
   ·rw [if_neg (by rw [decide_eq_true_eq]; omega)]
  ·rw [if_neg (by rw [decide_eq_true_eq]; omega)]
 ·rw [if_neg (by rw [decide_eq_true_eq]; omega)]
structure StockRng (a b : Int) (t T L : List Int) (E R : Int) (F : List Int) : Prop where
 ha : 0 ≤ a
 hb : 0 ≤ b
 ht : ∀ x ∈ t, 0 ≤ x ∧ x ≤ 65535
 hT : B8 T
 hL : B8 L
 hE : 0 ≤ E ∧ E < 4294967296
 hR : 0 ≤ R ∧ R ≤ 255
 hF : U64 F
theorem StockRng.args {a b : Int} {t T L : List Int} {E R : Int} {F : List Int} (h : StockRng a b t T L E R F) (hf : Few4 t T L F) : StockArgs a b t T L E R F := by
 obtain ⟨h1, h2, h3, h4⟩ := hf
 exact ⟨h.ha, h.hb, h.ht, by omega, h.hT, by omega, h.hL, by omega, h.hE, h.hR, h.hF, by omega⟩
section
variable {a b : Int} {t T L : List Int} {E R : Int} {F : List Int}
theorem places_l (w l : Int) (hg : Geo w l) (bs : List Blk) (hlen : bs.length ≤ 1048576) (hb : ∀ b ∈ bs, BlkIn (chunksG w l) b) : ∀ (d i : Nat), bs.length - i = d → i ≤ bs.length → Evt (fun k => l16_SoundPlaces.c11 k true (i : Int) w l bs) true := by
 intro d
 induction d with
 | zero =>
  intro i hd hi
  obtain rfl : i = bs.length := by omega
  exact Evt.step (f := fun _ => some true) (fun k => by rw [l16_SoundPlaces.c11, if_neg (by simp)]) (Evt.some _)
 | succ d ih =>
  intro i hd hi
  have hlt : i < bs.length := by omega
  have hbi := hb _ (List.getElem_mem hlt)
  refine Evt.step (f := fun k => (r16_Place.f k w l bs[i].f0 bs[i].f1 bs[i].f2).bind fun y8 => if (placeG w l bs[i] != y8) = true then some false else l16_SoundPlaces.c11 k true ((i + 1 : Nat) : Int) w l bs) (fun k => ?_) ?_
  ·rw [l16_SoundPlaces.c11, if_pos (decide_eq_true (by omega)), if_pos (by omega), if_pos (by omega), if_pos (by omega), gd bs i _ hlt, place_eq k w l bs[i] hg hbi, Option.bind_some, if_pos (by omega), if_pos (by omega), if_pos (by omega), i64w (x := (i : Int) + 1) (by omega) (by omega)]
   rfl
  ·refine Evt.bind (Evt.at 2000 fun k => refPlace_eq k w l bs[i] hg hbi) ?_
   exact Evt.congr (ih (i + 1) (by omega) (by omega)) (fun k => by rw [if_neg (by simp)])
theorem soundPlaces_ev (h : StockRng a b t T L E R F) : Evt (fun k => l16_SoundPlaces.f k a b t T L E R F) true := by
 unfold l16_SoundPlaces.f
 refine Evt.bind (Evt.at 700 awake_k) ?_
 by_cases hf : Few4 t T L F
 ·refine Evt.bind (Evt.of fun k => few_yes k a b t T L E R F hf) ?_
  obtain ⟨y, ds, hs, hy, he⟩ := stocked_stk (h.args hf)
  obtain ⟨hg, hn, hw, hw0⟩ := geoW_rng a b
  refine Evt.congr (f := fun k => (r16_Stocked.f k a b t T L E R F).bind fun y2 => (r15_Geometry.f k a b [] [] [] 0 0 []).bind fun y3 => (r05_Table.f k y3.fst y3.snd).bind fun y4 => (r15_Part.f k y2 y4.fst y4.snd).bind fun y5 => (r11_Blocks.f k y5).bind fun y6 => l16_SoundPlaces.c11 k true 0 y3.fst y3.snd y6) ?_ (fun k => by rw [if_neg (by decide)])
  refine Evt.bind he ?_
  refine Evt.bind (Evt.of fun k => geometry_eq k a b h.ha h.hb [] [] [] 0 0 []) ?_
  refine Evt.bind (Evt.at 2000 fun k => refTable_eq k _ _ hg) ?_
  have hpe : ∀ k, r15_Part.f k y (tabAt (geoL a)) (chunksG (geoW a b) (geoL a)) = some (ds.map encC) := fun k => by
   have := part_eq k y (geoL a) hs.geo
   rwa [hs.tab, hy] at this
  refine Evt.bind (Evt.of hpe) ?_
  have hfw := hs.few
  have hbl := refBlocks_eq (ds.map encC) (by rw [List.length_map]; omega) (U64_enc ds hs.tbl.ok)
  rw [chV_enc ds hs.tbl.ok] at hbl
  refine Evt.bind hbl ?_
  have hin := hs.in_
  rw [hy] at hin
  exact places_l _ _ hg (blks ds) (by have := hs.few2; omega) (fun b hb => (hin b hb).1) (blks ds).length 0 rfl (by omega)
 ·refine Evt.bind (Evt.of fun k => few_no k a b t T L E R F hf) ?_
  exact Evt.of fun k => by rw [if_pos (by decide)]
end
end Go.Proofs.YtbbpcbjgekencaaGreatDoor.PS
end
section
set_option linter.unusedVariables false
set_option linter.unusedSimpArgs false
namespace Go.Proofs.YtbbpcbjgekencaaGreatDoor.Opens
open Go.RowKit Go.ChangeShapes Go.WideShapes Go.Deep Go.Proofs.YtbbpcbjgekencaaGreatDoorW.PrintWords
def Opens (P : Program) (t : TypeId) {α : Type} (d : Kd α) (wf : α → Prop) : Prop :=
 ∀ {H : Type} (enc : TypeId × Value → H) (w : World) (base : Nat) (spare : Nat → Bool) (held : Bool) (fuel : Nat) (cs : List Value) (x : DataW H × List MemPlace),
  DataW.trod enc P w base spare held fuel t cs = some x → ∃ a : α, d.K w a cs ∧ wf a
theorem opens_int {P : Program} {t : TypeId} {k : IntKind} (ht : P.underlying t = some (.int k)) : Opens P t (Kd.int k) (fun n => (Lit.int k n).wf = true) := by
 intro H enc w base spare held fuel cs x h
 obtain ⟨n, rfl, _, hw⟩ := DataW.trod_int ht h
 exact ⟨n, rfl, hw⟩
theorem list_of_range {α : Type} (p : Nat → α → Prop) : ∀ n, (∀ i, i < n → ∃ a, p i a) → ∃ xs : List α, xs.length = n ∧ ∀ i a, xs[i]? = some a → p i a
 | 0, _ => ⟨[], rfl, fun i a h => by simp at h⟩
 | n + 1, h => by
  obtain ⟨xs, hl, hx⟩ := list_of_range p n (fun i hi => h i (by omega))
  obtain ⟨a, ha⟩ := h n (by omega)
  refine ⟨xs ++ [a], by simp [hl], fun i b hb => ?_⟩
  rcases Nat.lt_or_ge i xs.length with hi | hi
  ·rw [List.getElem?_append_left hi] at hb; exact hx i b hb
  ·rw [List.getElem?_append_right hi] at hb
   have : i = n := by
    have := (List.getElem?_eq_some_iff.1 hb).1
    simp at this; omega
   subst this
   rw [hl, Nat.sub_self] at hb
   injection hb with hb
   subst hb
   exact ha
theorem opens_slice {P : Program} {t e : TypeId} {α : Type} {d : Kd α} {wf : α → Prop} (ht : P.underlying t = some (.slice e)) (he : Opens P e d wf) (hsz : P.cellsOf e = d.sz) :
  Opens P t (Kd.slice e d) (fun xs => xs.length ≤ maxLen ∧ ∀ x ∈ xs, wf x) := by
 intro H enc w base spare held fuel cs x h
 rcases open_slice ht h with ⟨rfl, _⟩ | ⟨a, len, cap, m, n, D, Pl, rfl, _, hl, hm, hmm, _, hi⟩
 ·exact ⟨[], ⟨none, 0, rfl, Nat.le_refl _, rfl, Nat.zero_le _, fun h => absurd h (Nat.lt_irrefl 0)⟩, Nat.zero_le _, fun x hx => absurd hx List.not_mem_nil⟩
 ·have hlm : len ≤ m := by rw [hmm]; split <;> omega
  obtain ⟨xs, hxl, hx⟩ := list_of_range (fun i (b : α) => ∃ c, c.length = d.sz ∧ d.K w b c ∧ (∀ j u, c[j]? = some u → w.cell? (a.add (i * d.sz + j)) = some u) ∧ wf b) len (fun i hil => by
   obtain ⟨cs', hc, ht'⟩ := hi i (by omega)
   obtain ⟨b, hK, hw⟩ := he enc w base spare held n cs' _ ht'
   obtain ⟨_, hcl, hat⟩ := World.cells?_some hc
   refine ⟨b, cs', d.K_len hK, hK, fun j u hu => ?_, hw⟩
   have hj := (List.getElem?_eq_some_iff.1 hu).1
   have := hat j (by omega)
   rw [← hsz, ← Go.Deep.add_add, this]
   exact hu)
  refine ⟨xs, ⟨some a, cap, by rw [hxl], by omega, rfl, by unfold maxLen at hm; omega, fun _ => ⟨a, rfl, fun j p hj => ?_⟩⟩, by omega, fun b hb => ?_⟩
  ·obtain ⟨c, h1, h2, h3, _⟩ := hx j p hj
   exact ⟨c, h1, h2, h3⟩
  ·obtain ⟨i, hi', e⟩ := List.mem_iff_getElem.1 hb
   obtain ⟨_, _, _, _, hw⟩ := hx i b (by rw [List.getElem?_eq_getElem hi', e])
   exact hw
def OpensF (P : Program) : List Field → Nat → {α : Type} → Kd α → (α → Prop) → Prop := fun fs off α d wf =>
 ∀ {H : Type} (enc : TypeId × Value → H) (w : World) (base : Nat) (spare : Nat → Bool) (held : Bool) (n : Nat) (cs : List Value),
  cs.length = d.sz → (∀ (i : Nat) (f : Field), fs[i]? = some f → ∃ y, DataW.trod enc P w base spare held n f.type ((cs.drop (f.offset - off)).take (P.cellsOf f.type)) = some y) → ∃ a : α, d.K w a cs ∧ wf a
theorem opensF_last {P : Program} {f : Field} {off : Nat} {α : Type} {d : Kd α} {wf : α → Prop} (hf : Opens P f.type d wf) (ho : f.offset = off) (hsz : P.cellsOf f.type = d.sz) : OpensF P [f] off d wf := by
 intro H enc w base spare held n cs hl h
 obtain ⟨y, hy⟩ := h 0 f rfl
 rw [ho, Nat.sub_self, List.drop_zero, hsz, ← hl, List.take_length] at hy
 exact hf enc w base spare held n cs y hy
theorem opensF_cons {P : Program} {f : Field} {fs : List Field} {off : Nat} {α β : Type} {d : Kd α} {d' : Kd β} {wf : α → Prop} {wf' : β → Prop} (hf : Opens P f.type d wf) (ho : f.offset = off) (hsz : P.cellsOf f.type = d.sz)
  (hr : OpensF P fs (off + d.sz) d' wf') (hge0 : (fs.all fun g => decide (off + d.sz ≤ g.offset)) = true) : OpensF P (f :: fs) off (Kd.pair d d') (fun p => wf p.1 ∧ wf' p.2) := by
 have hge : ∀ g ∈ fs, off + d.sz ≤ g.offset := fun g hg => of_decide_eq_true (List.all_eq_true.1 hge0 g hg)
 intro H enc w base spare held n cs hl h
 have hl' : cs.length = d.sz + d'.sz := hl
 obtain ⟨y, hy⟩ := h 0 f rfl
 rw [ho, Nat.sub_self, List.drop_zero, hsz] at hy
 obtain ⟨a, ha, hwa⟩ := hf enc w base spare held n _ y hy
 obtain ⟨b, hb, hwb⟩ := hr enc w base spare held n (cs.drop d.sz) (by rw [List.length_drop]; omega) (fun i g hg => by
  obtain ⟨z, hz⟩ := h (i + 1) g (by simpa using hg)
  refine ⟨z, ?_⟩
  have hgm := hge g (List.mem_of_getElem? hg)
  rw [List.drop_drop, show d.sz + (g.offset - (off + d.sz)) = g.offset - off by omega]
  exact hz)
 exact ⟨(a, b), ⟨cs.take d.sz, cs.drop d.sz, (List.take_append_drop _ _).symm, ha, hb⟩, hwa, hwb⟩
theorem opens_struct {P : Program} {t : TypeId} {fs : List Field} {α β : Type} {d : Kd β} {wf : β → Prop} (f : α → β) (g : β → α) (hfg : ∀ b, f (g b) = b) (ht : P.underlying t = some (.struct fs.toArray)) (hs : P.cellsOf t = d.sz) (h : OpensF P fs 0 d wf) :
  Opens P t (Kd.iso d f) (fun x => wf (f x)) := by
 intro H enc w base spare held fuel cs x hx
 obtain ⟨xs, n, _, _, hl, hxl, hf⟩ := DataW.trod_struct ht hx
 obtain ⟨b, hb, hw⟩ := h enc w base spare held n cs (by omega) (fun i q hq => by
  have h1 := hf i q (by simpa using hq)
  have hlt : i < xs.length := by
   rw [hxl]
   have := (List.getElem?_eq_some_iff.1 hq).1
   simpa using this
  rw [List.getElem?_eq_getElem hlt] at h1
  rw [Nat.sub_zero]
  exact ⟨_, h1⟩)
 refine ⟨g b, ?_, ?_⟩
 ·show d.K w (f (g b)) cs
  rw [hfg]; exact hb
 ·show wf (f (g b))
  rw [hfg]; exact hw
end Go.Proofs.YtbbpcbjgekencaaGreatDoor.Opens
end
section
set_option linter.unusedVariables false
set_option linter.unusedSimpArgs false
namespace Go.Proofs.YtbbpcbjgekencaaGreatDoor.Q
open Go.RowKit Go.Proofs.YtbbpcbjgekencaaGreatDoorW.PrintWords Go.Proofs.YtbbpcbjgekencaaGreatDoor.Opens
structure S27 where
 f0 : Int
 f1 : Int
 f2 : (List Int)
 f3 : (List Int)
 f4 : (List Int)
 f5 : Int
 f6 : Int
 f7 : (List Int)
def k27 : Kd S27 := Kd.iso (Kd.pair (Kd.int .u8) (Kd.pair (Kd.int .u8) (Kd.pair (Kd.slice 32 (Kd.int .u16)) (Kd.pair (Kd.slice 5 (Kd.int .u8)) (Kd.pair (Kd.slice 5 (Kd.int .u8)) (Kd.pair (Kd.int .u32) (Kd.pair (Kd.int .u8) (Kd.slice 33 (Kd.int .u64))))))))) (fun x : S27 => (x.f0, x.f1, x.f2, x.f3, x.f4, x.f5, x.f6, x.f7))
theorem k27_open {w : World} {x : S27} {cs : List Value} (h : k27.K w x cs) : ∃ A2 c2 A3 c3 A4 c4 A7 c7, cs = [.int .u8 x.f0, .int .u8 x.f1, .slice A2 x.f2.length c2, .slice A3 x.f3.length c3, .slice A4 x.f4.length c4, .int .u32 x.f5, .int .u8 x.f6, .slice A7 x.f7.length c7] ∧ x.f2.length ≤ c2 ∧ (Kd.int .u16).C w A2 x.f2.length x.f2 ∧ x.f3.length ≤ c3 ∧ (Kd.int .u8).C w A3 x.f3.length x.f3 ∧ x.f4.length ≤ c4 ∧ (Kd.int .u8).C w A4 x.f4.length x.f4 ∧ x.f7.length ≤ c7 ∧ (Kd.int .u64).C w A7 x.f7.length x.f7 := by
 obtain ⟨_, _, rfl, rfl, ⟨_, _, rfl, rfl, ⟨_, _, rfl, ⟨A2, c2, rfl, l2, g2⟩, ⟨_, _, rfl, ⟨A3, c3, rfl, l3, g3⟩, ⟨_, _, rfl, ⟨A4, c4, rfl, l4, g4⟩, ⟨_, _, rfl, rfl, ⟨_, _, rfl, rfl, ⟨A7, c7, rfl, l7, g7⟩⟩⟩⟩⟩⟩⟩⟩ := h
 exact ⟨A2, c2, A3, c3, A4, c4, A7, c7, rfl, l2, g2, l3, g3, l4, g4, l7, g7⟩
def wf27 (x : S27) : Prop := ((Lit.int .u8 x.f0).wf = true) ∧ ((Lit.int .u8 x.f1).wf = true) ∧ ((x.f2.length ≤ maxLen ∧ ∀ x_ ∈ x.f2, (Lit.int .u16 x_).wf = true)) ∧ ((x.f3.length ≤ maxLen ∧ ∀ x_ ∈ x.f3, (Lit.int .u8 x_).wf = true)) ∧ ((x.f4.length ≤ maxLen ∧ ∀ x_ ∈ x.f4, (Lit.int .u8 x_).wf = true)) ∧ ((Lit.int .u32 x.f5).wf = true) ∧ ((Lit.int .u8 x.f6).wf = true) ∧ ((x.f7.length ≤ maxLen ∧ ∀ x_ ∈ x.f7, (Lit.int .u64 x_).wf = true))
theorem op27 : Opens Tryz.prog 27 k27 wf27 := opens_struct (fun x : S27 => (x.f0, x.f1, x.f2, x.f3, x.f4, x.f5, x.f6, x.f7)) (fun b => ⟨b.1, b.2.1, b.2.2.1, b.2.2.2.1, b.2.2.2.2.1, b.2.2.2.2.2.1, b.2.2.2.2.2.2.1, b.2.2.2.2.2.2.2⟩) (fun _ => rfl) Tryz.underlying27 (by kernel_rfl) (opensF_cons (opens_int (k := .u8) Tryz.underlying5) rfl (by kernel_rfl) (opensF_cons (opens_int (k := .u8) Tryz.underlying5) rfl (by kernel_rfl) (opensF_cons (opens_slice Tryz.underlying22 (opens_int (k := .u16) Tryz.underlying32) (by kernel_rfl)) rfl (by kernel_rfl) (opensF_cons (opens_slice Tryz.underlying23 (opens_int (k := .u8) Tryz.underlying5) (by kernel_rfl)) rfl (by kernel_rfl) (opensF_cons (opens_slice Tryz.underlying23 (opens_int (k := .u8) Tryz.underlying5) (by kernel_rfl)) rfl (by kernel_rfl) (opensF_cons (opens_int (k := .u32) Tryz.underlying24) rfl (by kernel_rfl) (opensF_cons (opens_int (k := .u8) Tryz.underlying5) rfl (by kernel_rfl) (opensF_last (opens_slice Tryz.underlying25 (opens_int (k := .u64) Tryz.underlying33) (by kernel_rfl)) rfl (by kernel_rfl)) (by decide)) (by decide)) (by decide)) (by decide)) (by decide)) (by decide)) (by decide))
end Go.Proofs.YtbbpcbjgekencaaGreatDoor.Q
end
section
set_option linter.unusedVariables false
set_option linter.unusedSimpArgs false
namespace Go.Proofs.YtbbpcbjgekencaaGreatDoor.Pure
open Go Go.RowKit Go.Proofs.YtbbpcbjgekencaaGreatDoor.Q Go.Proofs.YtbbpcbjgekencaaGreatDoorW.PrintWords Go.Proofs.YtbbpcbjgekencaaGreatDoor Go.Proofs.YtbbpcbjgekencaaGreatDoor.PS
theorem SoundPlaces : ∀ (a0 : S27), wf27 a0 → ∃ k, H.l16_SoundPlaces.f k a0.f0 a0.f1 a0.f2 a0.f3 a0.f4 a0.f5 a0.f6 a0.f7 = some true := by
 intro a0 h
 obtain ⟨i0, i1, ⟨_, i2⟩, ⟨_, i3⟩, ⟨_, i4⟩, i5, i6, ⟨_, i7⟩⟩ := h
 obtain ⟨K, hK⟩ := soundPlaces_ev ⟨(wu8 i0).1, (wu8 i1).1, fun x hx => wu16 (i2 x hx), fun x hx => wu8 (i3 x hx), fun x hx => wu8 (i4 x hx), wu32 i5, wu8 i6, fun x hx => wuu64 (i7 x hx)⟩
 exact ⟨K, hK K (Nat.le_refl _)⟩
end Go.Proofs.YtbbpcbjgekencaaGreatDoor.Pure
end
section
set_option linter.unusedVariables false
set_option linter.unusedSimpArgs false
namespace Go.Proofs.YtbbpcbjgekencaaGreatDoor.Q
open Go.RowKit Go.Proofs.YtbbpcbjgekencaaGreatDoorW.PrintWords Go.Proofs.YtbbpcbjgekencaaGreatDoorW.PrintLast Go.Proofs.YtbbpcbjgekencaaGreatDoorW.PrintMore
attribute [local go_sem] max2_int min2_int max_two min_two max_three min_three max_four min_four   -- for this text's walks alone
set_option linter.unusedVariables false
set_option linter.unusedSimpArgs false
def Gl (w : World) : Prop := w.cell? ⟨0, 0, none⟩ = some (.int .i64 4) ∧ w.cell? ⟨0, 1, none⟩ = some (.int .i64 8) ∧ w.cell? ⟨0, 2, none⟩ = some (.int .i64 16)
theorem Gl.below {w W : World} (h : Gl w) (hb : Below w.heap.size w W) : Gl W := ⟨pw_cell_below hb h.1, pw_cell_below hb h.2.1, pw_cell_below hb h.2.2⟩
theorem Gl.drewN {w : World} (h : Gl w) (n : Nat) : Gl (w.drewN n) := h
theorem Gl.drew {w : World} (h : Gl w) : Gl w.drew := h
theorem Gl.alloc {w : World} (h : Gl w) (o : Obj) : Gl (w.alloc o) := h.below ((Below.refl _ w).alloc (Nat.le_refl _) o)
def CallsG (n : Nat) (args : Array Value) (w : World) (R : Ending → World → Prop) : Prop := Gl w → Calls Tryz.prog n args w R
theorem CallsG.mono {n : Nat} {args : Array Value} {w : World} {R R' : Ending → World → Prop} (h : CallsG n args w R) (k : ∀ e w', R e w' → R' e w')
  (hG : Gl w := by first | exact HG.out | exact Gl.drewN HG.out _ | exact Gl.below HG.out HB.out | exact Gl.below HG.out (by repeat (first | exact HB.out | exact Below.refl _ _ | apply below_alloc | apply pw_below_drewN | apply below_drew1 | refine below_set ?_ (Aside0.out (by assumption)))) | (repeat (first | exact HG.out | apply Gl.drewN | apply Gl.drew | apply Gl.alloc))) : Calls Tryz.prog n args w R' := (h hG).mono k
end Go.Proofs.YtbbpcbjgekencaaGreatDoor.Q
end
section
set_option linter.unusedVariables false
set_option linter.unusedSimpArgs false
namespace Go.Proofs.YtbbpcbjgekencaaGreatDoor.Laid
open Go.ChangeShapes Go.WideShapes Go.RowKit Go.Proofs.YtbbpcbjgekencaaGreatDoor.Q
abbrev rows {H : Type} : List (String × DataW H) := [("lockfast/class.blocks", Rows.laid_lockfast_class_blocks)]
theorem named : Tryz.prog.globalNamed "lockfast/class.blocks" = some 0 := by kernel_rfl
theorem typed : (Tryz.prog.globals[0]?).map (·.type) = some 159 := by kernel_rfl
theorem cellsT : Tryz.prog.cellsOf 159 = 3 := by kernel_rfl
theorem cellsE : Tryz.prog.cellsOf 3 = 1 := by kernel_rfl
theorem int_of_trod {H : Type} {enc : TypeId × Value → H} {P : Program} {w : World} {base : Nat} {sp : Nat → Bool} {held : Bool} {fuel : Nat} {t : TypeId} {k : IntKind} {c : Value} {y : DataW H × List MemPlace}
  (ht : P.underlying t = some (.int k)) (h : DataW.trod enc P w base sp held fuel t [c] = some y) : ∃ n, c = .int k n ∧ y = (.lit (.int k n), []) := by
 cases fuel with
 | zero => simp [DataW.trod] at h
 | succ fuel =>
  cases c <;> simp [DataW.trod, ht] at h
  rename_i k' n
  obtain ⟨⟨rfl, _⟩, rfl⟩ := h
  exact ⟨n, rfl, rfl⟩
def cells3 : Array Value := #[.int .i64 4, .int .i64 8, .int .i64 16]
theorem cells_of_laid {W : World} (h : laidMet Tryz.prog rows W) : W.var? Tryz.prog "lockfast/class.blocks" = some cells3 := by
 obtain ⟨ps, ⟨g, t, cs, fuel, p, q, hg, ht, hvar, hd, _, _⟩, _⟩ := h
 obtain rfl := Option.some.inj (named.symm.trans hg)
 obtain rfl := Option.some.inj (typed.symm.trans ht)
 rw [hvar]
 congr 1
 obtain ⟨l⟩ := cs
 cases fuel with
 | zero => simp [DataW.trod] at hd
 | succ fuel =>
  simp only [DataW.trod, Tryz.underlying159, cellsT, cellsE] at hd
  split at hd
  ·rename_i hl
   obtain ⟨c0, c1, c2, rfl⟩ : ∃ c0 c1 c2, l = [c0, c1, c2] := by
    match l, hl with
    | [a, b, c], _ => exact ⟨a, b, c, rfl⟩
   have e : List.range 3 = [0, 1, 2] := rfl
   rw [e] at hd
   simp only [Option.map_eq_some_iff, List.mapM_cons, List.mapM_nil, Option.bind_eq_bind, Option.bind_eq_some_iff, Option.pure_def, Option.some.injEq] at hd
   obtain ⟨xs, ⟨y0, h0, _, ⟨y1, h1, _, ⟨y2, h2, _, rfl, rfl⟩, rfl⟩, rfl⟩, hx⟩ := hd
   obtain ⟨n0, rfl, rfl⟩ := int_of_trod Tryz.underlying3 h0
   obtain ⟨n1, rfl, rfl⟩ := int_of_trod Tryz.underlying3 h1
   obtain ⟨n2, rfl, rfl⟩ := int_of_trod Tryz.underlying3 h2
   simp [Rows.laid_lockfast_class_blocks] at hx
   obtain ⟨⟨rfl, rfl, rfl⟩, _⟩ := hx
   rfl
  ·cases hd
theorem gl {W : World} (h : laidMet Tryz.prog rows W) : Gl W := by
 have hv := cells_of_laid h
 refine ⟨?_, ?_, ?_⟩
 ·simpa [cells3] using World.var?_cell named hv 0
 ·simpa [cells3] using World.var?_cell named hv 1
 ·simpa [cells3] using World.var?_cell named hv 2
noncomputable def laidWorld (os : Os) : World :=
 { World.holding Tryz.prog os ⟨#[], #[], []⟩ with heap := (World.holding Tryz.prog os ⟨#[], #[], []⟩).heap.modify 0 fun
   | .cells _ t frozen => .cells cells3 t frozen
   | o => o }
theorem laidWorld_row (os : Os) (args : Array Value) : ((laidWorld os).forCall (fun _ _ => 0) ⟨#[], args, []⟩).memory.heap[0]? = some (.cells cells3 159 (0, 0)) := by kernel_rfl
set_option maxRecDepth 100000 in
theorem laidWorld_met (os : Os) (args : Array Value) : laidMet Tryz.prog rows ((laidWorld os).forCall (fun _ _ => 0) ⟨#[], args, []⟩).memory := by
 refine ⟨_, ⟨0, 159, cells3, 8, [], [], by kernel_rfl, by kernel_rfl, by kernel_rfl, by kernel_rfl, rfl, rfl⟩, by decide, fun b off h => ?_⟩
 have h' : MemPlace.cell b off ∈ [MemPlace.cell 0 0, .cell 0 1, .cell 0 2] := h
 have hb : b = 0 := by
  simp at h'
  omega
 subst hb
 refine ⟨⟨_, _, laidWorld_row os args⟩, fun u v hc => ?_⟩
 simp only [World.cell?, laidWorld_row os args] at hc
 simp at h'
 rcases h' with rfl | rfl | rfl <;> simp [cells3] at hc
end Go.Proofs.YtbbpcbjgekencaaGreatDoor.Laid
end
