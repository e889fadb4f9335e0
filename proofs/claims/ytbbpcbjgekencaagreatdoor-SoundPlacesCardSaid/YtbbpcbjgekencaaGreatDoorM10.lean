import Derived.Test.YtbbpcbjgekencaaGreatDoorM9
section
set_option linter.unusedVariables false
set_option linter.unusedSimpArgs false
set_option linter.unusedVariables false
set_option linter.unusedSimpArgs false
namespace Go.Proofs.YtbbpcbjgekencaaGreatDoor.PS
open Go Go.Proofs.YtbbpcbjgekencaaGreatDoor.Q Go.Proofs.YtbbpcbjgekencaaGreatDoor.FT Go.Proofs.YtbbpcbjgekencaaGreatDoor.Ev
def rightC (k c l m b : Int) : Bool := decide ((k = 0 ∨ k = 3) ∧ c = 0 ∧ l = 0 ∧ m = 0 ∧ b = 0 ∨ k = 1 ∧ l = 0 ∧ m = 0 ∧ (c = 0 ∧ b < 256 ∨ c = 1 ∧ b < 16 ∨ c = 2 ∧ b < 4) ∨
 k = 2 ∧ c = 0 ∧ l = 0 ∧ b = 0 ∧ 1 ≤ m ∧ m ≤ 8191 ∨ k = 4 ∧ c = 0 ∧ b = 0 ∧ 0 ≤ l ∧ l ≤ 63 ∧ 0 ≤ m ∧ m ≤ 7)
theorem some_dec {p : Prop} [Decidable p] {b : Bool} (h : b = true ↔ p) : some b = some (decide p) := by
 congr 1
 rw [Bool.eq_iff_iff, h]
 simp
theorem many_ref (k : Nat) (c : Int) (h : c = 0 ∨ c = 1 ∨ c = 2) : r09_Many.f (k + 20) c = some (if c = 0 then 8 else if c = 1 then 4 else 2) := by
 rcases h with rfl | rfl | rfl <;> kernel_rfl
theorem power_ref (k : Nat) (c : Int) (h : c = 8 ∨ c = 4 ∨ c = 2) : r10_power.f (k + 20) c = some (if c = 8 then 256 else if c = 4 then 16 else 4) := by
 rcases h with rfl | rfl | rfl <;> kernel_rfl
theorem refRight_eq (f : Nat) (k c l m b : Int) : r10_Right.f (f + 21) k c l m b = some (rightC k c l m b) := by
 have c3 : ∀ x5, x5 = (decide (k = 0 ∨ k = 3)) → r10_Right.c3 (f + 20 + 1) k x5 k c l m b = some (rightC k c l m b) := by
  intro x5 h5
  unfold rightC
  rw [r10_Right.c3]
  by_cases k03 : k = 0 ∨ k = 3
  ·have : x5 = true := by rw [h5]; simpa using k03
   rw [this, if_pos rfl]
   refine some_dec ?_
   rcases k03 with rfl | rfl <;> simp <;> omega
  have : x5 = false := by rw [h5]; simpa using k03
  rw [this, if_neg (by decide)]
  by_cases k1 : k = 1
  ·subst k1
   simp only [beq_self_eq_true, if_true, Bool.true_and]
   by_cases hl : l = 0 ∧ m = 0
   ·obtain ⟨rfl, rfl⟩ := hl
    simp only [beq_self_eq_true, if_true, Bool.true_and]
    by_cases hc : 0 ≤ c ∧ c ≤ 2
    ·rw [if_pos (decide_eq_true hc.1), if_pos (decide_eq_true hc.2), many_ref f c (by omega), Option.bind_some]
     rcases (show c = 0 ∨ c = 1 ∨ c = 2 by omega) with rfl | rfl | rfl
     ·rw [if_pos rfl, power_ref f 8 (by omega), Option.bind_some]; refine some_dec ?_; simp
     ·rw [if_neg (by decide), if_pos rfl, power_ref f 4 (by omega), Option.bind_some]; refine some_dec ?_; simp
     ·rw [if_neg (by decide), if_neg (by decide), power_ref f 2 (by omega), Option.bind_some]; refine some_dec ?_; simp
    ·split
     ·rename_i h1
      simp at h1
      rw [if_neg (by simp; omega)]
      refine some_dec ?_
      simp
      omega
     ·refine some_dec ?_
      simp
      omega
   ·have : (l == 0 && (m == 0 && true)) = false := by simp; omega
    rw [this, if_neg (by decide)]
    refine some_dec ?_
    simp
    omega
  have e1 : (k == 1) = false := by simpa using k1
  rw [e1, if_neg (by decide)]
  by_cases k2 : k = 2
  ·subst k2
   simp only [beq_self_eq_true, if_true, Bool.true_and]
   by_cases hl : c = 0 ∧ l = 0 ∧ b = 0
   ·obtain ⟨rfl, rfl, rfl⟩ := hl
    simp only [beq_self_eq_true, if_true, Bool.true_and]
    split
    ·refine some_dec ?_
     rename_i h1
     simp at h1
     simp
     omega
    ·refine some_dec ?_
     rename_i h1
     simp at h1
     simp
     omega
   ·have : (c == 0 && (l == 0 && b == 0)) = false := by simp; omega
    rw [this, if_neg (by decide)]
    refine some_dec ?_
    simp
    omega
  have e2 : (k == 2) = false := by simpa using k2
  rw [e2, if_neg (by decide)]
  by_cases k4 : k = 4
  ·subst k4
   simp only [beq_self_eq_true, if_true, Bool.true_and]
   by_cases hl : c = 0 ∧ b = 0
   ·obtain ⟨rfl, rfl⟩ := hl
    simp only [beq_self_eq_true, if_true, Bool.true_and]
    by_cases hh : 0 ≤ l ∧ l ≤ 63 ∧ 0 ≤ m
    ·rw [if_pos (decide_eq_true hh.1), if_pos (decide_eq_true hh.2.1), if_pos (decide_eq_true hh.2.2)]
     refine some_dec ?_
     simp
     omega
    ·have e : (if decide (l ≥ 0) = true then if decide (l ≤ 63) = true then if decide (m ≥ 0) = true then some (decide (m ≤ 7)) else some false else some false else some false) = some false := by
      split
      ·split
       ·split
        ·rename_i h1 h2 h3; simp at h1 h2 h3; omega
        ·rfl
       ·rfl
      ·rfl
     rw [e]
     refine some_dec ?_
     simp
     omega
   ·have : (c == 0 && b == 0) = false := by simp; omega
    rw [this, if_neg (by decide)]
    refine some_dec ?_
    simp
    omega
  have e4 : (k == 4) = false := by simpa using k4
  rw [e4, if_neg (by decide)]
  refine some_dec ?_
  simp
  omega
 unfold r10_Right.f
 by_cases k0 : k = 0
 ·subst k0
  exact c3 true (by simp)
 ·rw [if_neg (by simpa using k0)]
  exact c3 (k == 3) (by rw [Bool.eq_iff_iff]; simp [k0])
def decC (w : Int) : S114 := ⟨w % 8, w / 8 % 4, w / 32 % 64, w / 2048 % 8192, w / 16777216 % 256⟩
def okC (c : S114) : Bool := rightC c.f0 c.f1 c.f2 c.f3 c.f4
def decOk (w : Int) : Bool := okC (decC w) && decide (w < 4294967296)
def decT (w : Int) : Int × Int × Int × Int × Int × Bool := if decOk w = true then ((decC w).f0, (decC w).f1, (decC w).f2, (decC w).f3, (decC w).f4, true) else (0, 0, 0, 0, 0, false)
theorem refDecode_eq (f : Nat) (w : Int) (hw : Wd w) : r10_Decode.f (f + 21) w = some (decT w) := by
 have h0 := hw.1
 have h1 := hw.2
 unfold r10_Decode.f
 rw [Int.tmod_eq_emod_of_nonneg h0, Int.tdiv_eq_ediv_of_nonneg h0, Int.tdiv_eq_ediv_of_nonneg h0, Int.tdiv_eq_ediv_of_nonneg h0, Int.tdiv_eq_ediv_of_nonneg h0, Int.tdiv_eq_ediv_of_nonneg h0]
 rw [u64w (x := w / 8) (by omega) (by omega), u64w (x := w / 32) (by omega) (by omega), u64w (x := w / 2048) (by omega) (by omega), u64w (x := w / 16777216) (by omega) (by omega), u64w (x := w / 4294967296) (by omega) (by omega)]
 rw [Int.tmod_eq_emod_of_nonneg (by omega), Int.tmod_eq_emod_of_nonneg (by omega), Int.tmod_eq_emod_of_nonneg (by omega), Int.tmod_eq_emod_of_nonneg (by omega)]
 rw [i64w (by omega) (by omega), i64w (by omega) (by omega), i64w (by omega) (by omega), i64w (by omega) (by omega), refRight_eq, Option.bind_some]
 unfold decT decOk okC decC
 simp only
 cases hr : rightC (w % 8) (w / 8 % 4) (w / 32 % 64) (w / 2048 % 8192) (w / 16777216 % 256) with
 | false => simp
 | true =>
  simp only [Bool.not_true, if_true, Bool.true_and, decide_eq_true_eq]
  by_cases hlt : w < 4294967296
  ·rw [if_neg (by simp; omega), if_pos hlt]
  ·rw [if_pos (by simp; omega), if_neg hlt]
def rightH (a b c : Int) : Bool := decide (1 ≤ a ∧ a ≤ 65535 ∧ 0 ≤ b ∧ b ≤ 4096 ∧ 1 ≤ c)
def headT (x y : Int) : Int × Int × Int × Bool := if rightH (x % 65536) (x / 65536 % 65536) y = true ∧ x / 4294967296 = 4200005632 then (x % 65536, x / 65536 % 65536, y, true) else (0, 0, 0, false)
theorem refOidRight_eq (k : Nat) (a b c : Int) : r08_Right.f k a b c = some (rightH a b c) := by
 unfold r08_Right.f rightH
 split
 ·split
  ·split
   ·split
    ·rename_i h1 h2 h3 h4
     simp at h1 h2 h3 h4
     refine some_dec ?_
     simp
     omega
    ·rename_i h1 h2 h3 h4
     simp at h1 h2 h3 h4
     refine some_dec ?_
     simp
     omega
   ·rename_i h1 h2 h3
    simp at h1 h2 h3
    refine some_dec ?_
    simp
    omega
  ·rename_i h1 h2
   simp at h1 h2
   refine some_dec ?_
   simp
   omega
 ·rename_i h1
  simp at h1
  refine some_dec ?_
  simp
  omega
end Go.Proofs.YtbbpcbjgekencaaGreatDoor.PS
end
section
set_option linter.unusedVariables false
set_option linter.unusedSimpArgs false
set_option linter.unusedVariables false
set_option linter.unusedSimpArgs false
namespace Go.Proofs.YtbbpcbjgekencaaGreatDoor.PS
open Go Go.Proofs.YtbbpcbjgekencaaGreatDoor.Q Go.Proofs.YtbbpcbjgekencaaGreatDoor.FT Go.Proofs.YtbbpcbjgekencaaGreatDoor.Ev
def blockS (s : Int) : Int := if s ≤ 2 then 4 else if s ≤ 6 then 8 else if s ≤ 14 then 16 else 0
def chunksS (s : Int) : Int := if s ≤ 14 then 0 else (s + 33) / 32
def roomS (s : Int) : Int := blockS s + 32 * chunksS s
theorem blk09 (k : Nat) (c : Int) : r09_Block.f k c = some (H.blockW c) := by
 unfold r09_Block.f H.blockW
 by_cases a : c = 0
 ·subst a; rfl
 by_cases b : c = 1
 ·subst b; rfl
 by_cases d : c = 2
 ·subst d; rfl
 ·simp [a, b, d]
def chunksG (w l : Int) : Int := if 1 ≤ l ∧ l ≤ 64 ∧ w ≤ 65536 then max 0 ((w - 10 - 73 * l) / 33) else 0
theorem geoChunks_eq (k : Nat) (w l : Int) : geo_Chunks.f k w l = some (chunksG w l) := by
 unfold geo_Chunks.f geo_can.f geo_table.f geo_logs.f chunksG
 by_cases h : 1 ≤ l ∧ l ≤ 64 ∧ 1 ≤ w ∧ w ≤ 65536
 ·rw [if_pos (decide_eq_true h.1), if_pos (decide_eq_true h.2.1), if_pos (decide_eq_true h.2.2.1), decide_eq_true h.2.2.2, Option.bind_some, if_neg (by decide), if_pos (by omega)]
  simp only [Option.bind_some]
  rw [i64w (x := 10 + l) (by omega) (by omega), i64w (x := l * 72) (by omega) (by omega), i64w (x := 10 + l + l * 72) (by omega) (by omega), i64w (x := w - _) (by omega) (by omega)]
  congr 1
  unfold mx
  by_cases hp : 0 ≤ w - (10 + l + l * 72)
  ·rw [Int.tdiv_eq_ediv_of_nonneg hp, i64w (by omega) (by omega)]
   split <;> omega
  ·have h1 : (w - (10 + l + l * 72)).tdiv 33 ≤ 0 := by
    have : w - (10 + l + l * 72) = -(10 + l + l * 72 - w) := by omega
    rw [this, Int.neg_tdiv, Int.tdiv_eq_ediv_of_nonneg (by omega)]
    omega
   have h2 : -9223372036854775808 ≤ (w - (10 + l + l * 72)).tdiv 33 := by
    have : w - (10 + l + l * 72) = -(10 + l + l * 72 - w) := by omega
    rw [this, Int.neg_tdiv, Int.tdiv_eq_ediv_of_nonneg (by omega)]
    omega
   rw [i64w h2 (by omega), if_neg (by omega)]
   omega
 ·have e : ∀ (z : Option Bool), z = (if decide (l ≥ 1) = true then if decide (l ≤ 64) = true then if decide (w ≥ 1) = true then some (decide (w ≤ 65536)) else some false else some false else some false) → z = some false := by
   intro z hz
   rw [hz]
   split
   ·split
    ·split
     ·rename_i h1 h2 h3; simp at h1 h2 h3; rw [decide_eq_false (by omega)]
     ·rfl
    ·rfl
   ·rfl
  rw [e _ rfl, Option.bind_some, if_pos (by decide)]
  congr 1
  split <;> omega
theorem refChunks_l (w l : Int) (h : 1 ≤ l ∧ l ≤ 64 ∧ w ≤ 65536) : ∀ (d : Nat) (n : Int), chunksG w l - n = d → 0 ≤ n → ∀ k, r05_Chunks.c6 (k + 1 + d) n w l = some (chunksG w l) := by
 intro d
 have hg : chunksG w l = max 0 ((w - 10 - 73 * l) / 33) := by unfold chunksG; rw [if_pos h]
 induction d with
 | zero =>
  intro n hd hn k
  rw [show k + 1 + 0 = k + 1 by omega, r05_Chunks.c6, i64w (x := 73 * l) (by omega) (by omega), i64w (x := 10 + 73 * l) (by omega) (by omega), i64w (x := n + 1) (by omega) (by omega), i64w (x := 33 * (n + 1)) (by omega) (by omega), i64w (by omega) (by omega), if_neg (by simp; omega)]
  congr 1
  omega
 | succ d ih =>
  intro n hd hn k
  rw [show k + 1 + (d + 1) = (k + 1 + d) + 1 by omega, r05_Chunks.c6, i64w (x := 73 * l) (by omega) (by omega), i64w (x := 10 + 73 * l) (by omega) (by omega), i64w (x := n + 1) (by omega) (by omega), i64w (x := 33 * (n + 1)) (by omega) (by omega), i64w (by omega) (by omega), if_pos (by simp; omega)]
  exact ih (n + 1) (by omega) (by omega) k
theorem refChunks_eq (k : Nat) (w l : Int) : r05_Chunks.f (k + 2000) w l = some (chunksG w l) := by
 unfold r05_Chunks.f
 by_cases h : 1 ≤ l ∧ l ≤ 64 ∧ w ≤ 65536
 ·rw [if_pos (by simp; omega), if_pos (by simp; omega), if_neg (by simp; omega)]
  have hg : chunksG w l = max 0 ((w - 10 - 73 * l) / 33) := by unfold chunksG; rw [if_pos h]
  obtain ⟨d, hd⟩ : ∃ d : Nat, chunksG w l - 0 = (d : Int) := ⟨(chunksG w l).toNat, by omega⟩
  have := refChunks_l w l h d 0 hd (by omega) (k + 1999 - d)
  rw [show k + 1999 - d + 1 + d = k + 2000 by omega] at this
  exact this
 ·have hg : chunksG w l = 0 := by unfold chunksG; rw [if_neg h]
  rw [hg]
  split
  ·split
   ·split
    ·rfl
    ·rename_i h1 h2 h3; simp at h1 h2 h3; omega
   ·rfl
  ·rfl
def Geo (w l : Int) : Prop := 1 ≤ chunksG w l
instance (w l : Int) : Decidable (Geo w l) := inferInstanceAs (Decidable (1 ≤ chunksG w l))
theorem Geo.l {w l : Int} (h : Geo w l) : 1 ≤ l ∧ l ≤ 64 ∧ w ≤ 65536 ∧ 10 + 73 * l + 33 * chunksG w l ≤ w := by
 unfold Geo at h
 unfold chunksG at h ⊢
 split at h
 ·rename_i hc
  rw [if_pos hc]
  omega
 ·omega
def tabAt (l : Int) : Int := 10 + 73 * l
def heapAt (w l : Int) : Int := 10 + 73 * l + chunksG w l
theorem refRight05_eq (k : Nat) (w l : Int) : r05_Right.f (k + 2000) w l = some (decide (Geo w l)) := by
 unfold r05_Right.f Geo
 rw [refChunks_eq, Option.bind_some]
 refine some_dec ?_
 simp
theorem refTable_eq (k : Nat) (w l : Int) (h : Geo w l) : r05_Table.f (k + 2000) w l = some (tabAt l, chunksG w l) := by
 have := h.l
 unfold r05_Table.f tabAt
 rw [refRight05_eq, Option.bind_some, decide_eq_true h, if_neg (by decide), refChunks_eq]
 simp only [Option.bind_some]
 rw [i64w (x := 73 * l) (by omega) (by omega), i64w (by omega) (by omega)]
theorem geoChunk_eq (k : Nat) (w l i : Int) (h : Geo w l) (h0 : 0 ≤ i) (h1 : i < chunksG w l) : geo_Chunk.f k w l i = some (heapAt w l + 32 * i, 32) := by
 have := h.l
 unfold geo_Chunk.f geo_heap.f geo_table.f geo_logs.f heapAt
 rw [if_pos (by simp; omega), geoChunks_eq, Option.bind_some, if_neg (by simp; omega)]
 simp only [Option.bind_some]
 rw [i64w (x := 10 + l) (by omega) (by omega), i64w (x := l * 72) (by omega) (by omega), i64w (x := 10 + l + l * 72) (by omega) (by omega), i64w (x := 10 + l + l * 72 + _) (by omega) (by omega), i64w (x := i * 32) (by omega) (by omega), i64w (by omega) (by omega)]
 congr 2
 omega
theorem refChunk_eq (k : Nat) (w l i : Int) (h : Geo w l) (h0 : 0 ≤ i) (h1 : i < chunksG w l) : r05_Chunk.f (k + 2000) w l i = some (heapAt w l + 32 * i, 32) := by
 have := h.l
 unfold r05_Chunk.f heapAt
 rw [refChunks_eq, Option.bind_some, if_pos (by simp; omega), if_neg (by simp; omega)]
 rw [i64w (x := 73 * l) (by omega) (by omega), i64w (x := 10 + 73 * l) (by omega) (by omega), i64w (x := 10 + 73 * l + _) (by omega) (by omega), i64w (x := 32 * i) (by omega) (by omega), i64w (by omega) (by omega)]
structure BlkIn (n : Int) (b : S61) : Prop where
 c0 : 0 ≤ b.f0
 c1 : b.f0 < n
 i0 : 0 ≤ b.f1
 w0 : 4 ≤ b.f2
 fit : 32 * b.f0 + b.f1 * b.f2 + b.f2 ≤ 32 * n
 iw : b.f1 = 0 ∨ b.f2 < 32
 i8 : b.f1 < 8
def placeG (w l : Int) (b : S61) : Int := heapAt w l + 32 * b.f0 + b.f1 * b.f2
theorem BlkIn.mul {n : Int} {b : S61} (h : BlkIn n b) : 0 ≤ b.f1 * b.f2 := Int.mul_nonneg h.i0 (by have := h.w0; omega)
theorem place_eq (k : Nat) (w l : Int) (b : S61) (h : Geo w l) (hb : BlkIn (chunksG w l) b) : sound_Place.f k w l b.f0 b.f1 b.f2 = some (placeG w l b) := by
 have := h.l
 have h1 := hb.mul
 have h2 := hb.fit
 have h3 := hb.w0
 have h4 := hb.c0
 unfold sound_Place.f placeG
 rw [geoChunk_eq k w l b.f0 h hb.c0 hb.c1, Option.bind_some]
 unfold heapAt
 rw [i64w (x := b.f1 * b.f2) (by omega) (by omega), i64w (by omega) (by omega)]
theorem refPlace_eq (k : Nat) (w l : Int) (b : S61) (h : Geo w l) (hb : BlkIn (chunksG w l) b) : r16_Place.f (k + 2000) w l b.f0 b.f1 b.f2 = some (placeG w l b) := by
 have := h.l
 have h1 := hb.mul
 have h2 := hb.fit
 have h3 := hb.w0
 have h4 := hb.c0
 unfold r16_Place.f placeG
 rw [refChunk_eq k w l b.f0 h hb.c0 hb.c1, Option.bind_some, Int.mul_comm b.f2 b.f1]
 unfold heapAt
 rw [i64w (x := b.f1 * b.f2) (by omega) (by omega), i64w (by omega) (by omega)]
def tabL (x : List Int) (l : Int) : List Int := List.drop (tabAt l).toNat (List.take (tabAt l + chunksG (x.length : Int) l).toNat x)
theorem part_eq (k : Nat) (x : List Int) (l : Int) (h : Geo (x.length : Int) l) : r15_Part.f k x (tabAt l) (chunksG (x.length : Int) l) = some (tabL x l) := by
 have := h.l
 have hg : 1 ≤ chunksG (x.length : Int) l := h
 have ht : tabAt l = 10 + 73 * l := rfl
 unfold r15_Part.f tabL
 rw [i64w (x := tabAt l + chunksG (x.length : Int) l) (by omega) (by omega), if_pos (by omega), if_pos (by omega), if_pos (by omega)]
theorem tabL_len (x : List Int) (l : Int) (h : Geo (x.length : Int) l) : ((tabL x l).length : Int) = chunksG (x.length : Int) l := by
 have := h.l
 have hg : 1 ≤ chunksG (x.length : Int) l := h
 unfold tabL tabAt
 rw [List.length_drop, List.length_take]
 omega
end Go.Proofs.YtbbpcbjgekencaaGreatDoor.PS
end
section
set_option linter.unusedVariables false
set_option linter.unusedSimpArgs false
set_option linter.unusedVariables false
set_option linter.unusedSimpArgs false
namespace Go.Proofs.YtbbpcbjgekencaaGreatDoor.PS
open Go Go.Proofs.YtbbpcbjgekencaaGreatDoor.Q Go.Proofs.YtbbpcbjgekencaaGreatDoor.FT Go.Proofs.YtbbpcbjgekencaaGreatDoor.Ev
abbrev Chk := S114
theorem gd {α : Type} (l : List α) (i : Nat) (z : α) (h : i < l.length) : l.getD (i : Int).toNat z = l[i] := by
 rw [Int.toNat_natCast, List.getD_eq_getElem?_getD, List.getElem?_eq_getElem h]
 rfl
theorem okC_iff (c : Chk) : okC c = true ↔ ((c.f0 = 0 ∨ c.f0 = 3) ∧ c.f1 = 0 ∧ c.f2 = 0 ∧ c.f3 = 0 ∧ c.f4 = 0 ∨ c.f0 = 1 ∧ c.f2 = 0 ∧ c.f3 = 0 ∧ (c.f1 = 0 ∧ c.f4 < 256 ∨ c.f1 = 1 ∧ c.f4 < 16 ∨ c.f1 = 2 ∧ c.f4 < 4) ∨
 c.f0 = 2 ∧ c.f1 = 0 ∧ c.f2 = 0 ∧ c.f4 = 0 ∧ 1 ≤ c.f3 ∧ c.f3 ≤ 8191 ∨ c.f0 = 4 ∧ c.f1 = 0 ∧ c.f4 = 0 ∧ 0 ≤ c.f2 ∧ c.f2 ≤ 63 ∧ 0 ≤ c.f3 ∧ c.f3 ≤ 7) := by
 unfold okC rightC
 rw [decide_eq_true_iff]
def OkC (c : Chk) : Prop := okC c = true ∧ 0 ≤ c.f4
theorem OkC.huge {c : Chk} (h : OkC c) (k : c.f0 = 2) : c.f1 = 0 ∧ c.f2 = 0 ∧ c.f4 = 0 ∧ 1 ≤ c.f3 ∧ c.f3 ≤ 8191 := by have := (okC_iff c).mp h.1; omega
theorem OkC.run {c : Chk} (h : OkC c) (k : c.f0 = 1) : c.f2 = 0 ∧ c.f3 = 0 ∧ (c.f1 = 0 ∧ c.f4 < 256 ∨ c.f1 = 1 ∧ c.f4 < 16 ∨ c.f1 = 2 ∧ c.f4 < 4) := by have := (okC_iff c).mp h.1; omega
theorem OkC.range {c : Chk} (h : OkC c) : 0 ≤ c.f0 ∧ c.f0 < 8 ∧ 0 ≤ c.f1 ∧ c.f1 < 4 ∧ 0 ≤ c.f2 ∧ c.f2 < 64 ∧ 0 ≤ c.f3 ∧ c.f3 < 8192 ∧ 0 ≤ c.f4 ∧ c.f4 < 256 := by have := (okC_iff c).mp h.1; have := h.2; omega
theorem decOk_of {w : Int} (h0 : 0 ≤ w) (h : decOk w = true) : OkC (decC w) := by
 unfold decOk at h
 simp only [Bool.and_eq_true] at h
 exact ⟨h.1, by unfold decC; simp only; omega⟩
def chV (l : List Int) : Bool × List Chk := if l.all decOk = true then (true, l.map decC) else (false, [])
def chGo (acc : List Chk) (l : List Int) : Bool × List Chk := if l.all decOk = true then (true, acc ++ l.map decC) else (false, [])
theorem chGo_ok (acc : List Chk) (w : Int) (l : List Int) (h : decOk w = true) : chGo acc (w :: l) = chGo (acc ++ [decC w]) l := by simp [chGo, h]
theorem chGo_no (acc : List Chk) (w : Int) (l : List Int) (h : ¬ decOk w = true) : chGo acc (w :: l) = (false, []) := by simp [chGo, h]
theorem chGo_nil (acc : List Chk) (l : List Int) (h : l = []) : chGo acc l = (true, acc) := by subst h; simp [chGo]
theorem decT_ok {w : Int} (h : decOk w = true) : decT w = ((decC w).f0, (decC w).f1, (decC w).f2, (decC w).f3, (decC w).f4, true) := by unfold decT; rw [if_pos h]
theorem decT_no {w : Int} (h : ¬ decOk w = true) : decT w = (0, 0, 0, 0, 0, false) := by unfold decT; rw [if_neg h]
theorem big_le {a : Nat} (h : a ≤ 1048576) : a + 1 ≤ big := by unfold big; omega
theorem refChunksT_l (l : List Int) (hl : l.length ≤ 1048576) (hw : U64 l) : ∀ (d i : Nat) (acc : List Chk), l.length - i = d → i ≤ l.length → acc.length = i →
  Evt (fun k => r11_Chunks.c4 k l (i : Int) acc) (chGo acc (l.drop i)) := by
 intro d
 induction d with
 | zero =>
  intro i acc hd hi ha
  obtain rfl : i = l.length := by omega
  rw [chGo_nil acc (l.drop l.length) (by simp)]
  exact Evt.step (f := fun _ => some (true, acc)) (fun k => by rw [r11_Chunks.c4, if_neg (by simp)]) (Evt.some _)
 | succ d ih =>
  intro i acc hd hi ha
  have hlt : i < l.length := by omega
  have hr : ∀ k, r10_Decode.f (k + 21) l[i] = some (decT l[i]) := fun k => refDecode_eq k _ (hw _ (List.getElem_mem hlt))
  have hE : Evt (fun k => r10_Decode.f k l[i]) (decT l[i]) := ⟨21, fun k hk => by obtain ⟨j, rfl⟩ : ∃ j, k = j + 21 := ⟨k - 21, by omega⟩; exact hr j⟩
  rw [List.drop_eq_getElem_cons hlt]
  refine Evt.step (f := fun k => (r10_Decode.f k l[i]).bind fun y0 => (if (!y0.snd.snd.snd.snd.snd) = true then (some (false, [])) else (if acc.length + [S114.mk y0.fst y0.snd.fst y0.snd.snd.fst y0.snd.snd.snd.fst y0.snd.snd.snd.snd.fst].length ≤ big then (r11_Chunks.c4 k l (IntKind.i64.wrap ((i : Int) + 1)) (acc ++ [S114.mk y0.fst y0.snd.fst y0.snd.snd.fst y0.snd.snd.snd.fst y0.snd.snd.snd.snd.fst])) else none))) (fun k => ?_) (Evt.bind hE ?_)
  ·rw [r11_Chunks.c4, if_pos (decide_eq_true (by omega)), if_pos (by omega), if_pos (by omega), gd l i 0 hlt]
  by_cases ho : decOk l[i] = true
  ·rw [chGo_ok _ _ _ ho]
   refine Evt.congr (ih (i + 1) (acc ++ [decC l[i]]) (by omega) (by omega) (by simp [ha])) (fun k => ?_)
   rw [decT_ok ho, if_neg (by simp), if_pos (by rw [List.length_singleton]; exact big_le (by omega)), i64w (by omega) (by omega)]
   rfl
  ·rw [chGo_no _ _ _ ho]
   refine Evt.congr (Evt.some (false, [])) (fun k => ?_)
   rw [decT_no ho, if_pos (by decide)]
theorem refChunksT_eq (l : List Int) (hl : l.length ≤ 1048576) (hw : U64 l) : Evt (fun k => r11_Chunks.f k l) (chV l) := by
 have h := refChunksT_l l hl hw l.length 0 [] (by omega) (by omega) rfl
 simpa [r11_Chunks.f, chV, chGo] using h
theorem chV_len (l : List Int) : (chV l).2.length ≤ l.length := by unfold chV; split <;> simp
theorem chV_ok (l : List Int) (hw : U64 l) : ∀ c ∈ (chV l).2, OkC c := by
 intro c hc
 unfold chV at hc
 split at hc
 ·rename_i h
  simp only [List.mem_map] at hc
  obtain ⟨w, hw', rfl⟩ := hc
  exact decOk_of (hw w hw').1 (List.all_eq_true.mp h w hw')
 ·simp at hc
def rightGo : Int → List Chk → Bool
 | T, [] => T == 0
 | T, c :: cs => if c.f0 = 3 ↔ T > 0 then (if c.f0 = 3 then rightGo (T - 1) cs else if c.f0 = 2 then rightGo (c.f3 - 1) cs else rightGo T cs) else false
def isTail (cs : List Chk) (i : Nat) : Prop := ∃ k, ∃ h : k < cs.length, k < i ∧ cs[k].f0 = 2 ∧ (i : Int) < k + cs[k].f3
def rightAt (cs : List Chk) (i : Nat) : Prop := ∃ h : i < cs.length, (isTail cs i ↔ cs[i].f0 = 3) ∧ (cs[i].f0 = 2 → i + cs[i].f3 ≤ cs.length)
def reach (cs : List Chk) (i : Nat) (T : Int) : Prop := ∃ k, ∃ h : k < cs.length, k < i ∧ cs[k].f0 = 2 ∧ k + cs[k].f3 = i + T
theorem rightGo_iff (cs : List Chk) (hok : ∀ c ∈ cs, OkC c) : ∀ (d i : Nat) (T : Int), cs.length - i = d → i ≤ cs.length → 0 ≤ T →
  (∀ k, ∀ h : k < cs.length, k < i → cs[k].f0 = 2 → k + cs[k].f3 ≤ i + T) → (T > 0 → reach cs i T) →
  (rightGo T (cs.drop i) = true ↔ (∀ k, i ≤ k → k < cs.length → rightAt cs k) ∧ ∀ k, ∀ h : k < cs.length, k < i → cs[k].f0 = 2 → k + cs[k].f3 ≤ cs.length) := by
 intro d
 induction d with
 | zero =>
  intro i T hd hi hT h1 h2
  obtain rfl : i = cs.length := by omega
  rw [List.drop_length, rightGo]
  constructor
  ·intro h
   have : T = 0 := by simpa using h
   subst this
   exact ⟨fun k h3 h4 => by omega, fun k h3 h4 h5 => by have := h1 k h3 h4 h5; omega⟩
  ·rintro ⟨_, h⟩
   by_cases hx : 0 < T
   ·obtain ⟨k, h3, h4, h5, h6⟩ := h2 hx
    have := h k h3 h4 h5
    omega
   ·have : T = 0 := by omega
    simp [this]
 | succ d ih =>
  intro i T hd hi hT h1 h2
  have hlt : i < cs.length := by omega
  have hc := hok _ (List.getElem_mem hlt)
  rw [List.drop_eq_getElem_cons hlt, rightGo]
  have htl : isTail cs i ↔ T > 0 := by
   constructor
   ·rintro ⟨k, h, h3, h4, h5⟩
    have := h1 k h h3 h4
    omega
   ·intro h
    obtain ⟨k, h3, h4, h5, h6⟩ := h2 h
    exact ⟨k, h3, h4, h5, by omega⟩
  have hm : (cs[i].f0 = 3 ↔ T > 0) ↔ (isTail cs i ↔ cs[i].f0 = 3) := by
   rw [htl]
   exact ⟨fun h => h.symm, fun h => h.symm⟩
  by_cases hx : (isTail cs i ↔ cs[i].f0 = 3)
  ·rw [if_pos (hm.2 hx)]
   have one : ∀ T' : Int, (cs[i].f0 = 2 → i + cs[i].f3 = i + 1 + T') → ((∀ k, i + 1 ≤ k → k < cs.length → rightAt cs k) ∧ (∀ k, ∀ h : k < cs.length, k < i + 1 → cs[k].f0 = 2 → k + cs[k].f3 ≤ cs.length) ↔
     (∀ k, i ≤ k → k < cs.length → rightAt cs k) ∧ ∀ k, ∀ h : k < cs.length, k < i → cs[k].f0 = 2 → k + cs[k].f3 ≤ cs.length) := by
    intro T' _
    constructor
    ·rintro ⟨ha, hb⟩
     refine ⟨fun k h3 h4 => ?_, fun k h3 h4 => hb k h3 (by omega)⟩
     rcases Nat.lt_or_ge i k with hy | hy
     ·exact ha k hy h4
     ·obtain rfl : k = i := by omega
      exact ⟨hlt, hx, hb k hlt (by omega)⟩
    ·rintro ⟨ha, hb⟩
     refine ⟨fun k h3 h4 => ha k (by omega) h4, fun k h3 h4 h5 => ?_⟩
     rcases Nat.lt_or_ge k i with hy | hy
     ·exact hb k h3 hy h5
     ·obtain rfl : k = i := by omega
      obtain ⟨_, _, h⟩ := ha k (by omega) h3
      exact h h5
   by_cases h3 : cs[i].f0 = 3
   ·have hp := htl.1 (hx.2 h3)
    rw [if_pos h3]
    refine (ih (i + 1) (T - 1) (by omega) (by omega) (by omega) ?_ ?_).trans (one (T - 1) (by omega))
    ·intro k h4 h5 h6
     rcases Nat.lt_or_ge k i with hy | hy
     ·have := h1 k h4 hy h6; omega
     ·obtain rfl : k = i := by omega
      omega
    ·intro h4
     obtain ⟨k, h5, h6, h7, h8⟩ := h2 hp
     exact ⟨k, h5, by omega, h7, by omega⟩
   ·rw [if_neg h3]
    have hz : ¬ T > 0 := fun h => h3 (hx.1 (htl.2 h))
    by_cases h4 : cs[i].f0 = 2
    ·have hh := hc.huge h4
     rw [if_pos h4]
     refine (ih (i + 1) (cs[i].f3 - 1) (by omega) (by omega) (by omega) ?_ ?_).trans (one (cs[i].f3 - 1) (by omega))
     ·intro k h5 h6 h7
      rcases Nat.lt_or_ge k i with hy | hy
      ·have := h1 k h5 hy h7; omega
      ·obtain rfl : k = i := by omega
       omega
     ·intro _
      exact ⟨i, hlt, by omega, h4, by omega⟩
    ·rw [if_neg h4]
     refine (ih (i + 1) T (by omega) (by omega) (by omega) ?_ ?_).trans (one T (fun h => absurd h h4))
     ·intro k h5 h6 h7
      rcases Nat.lt_or_ge k i with hy | hy
      ·have := h1 k h5 hy h7; omega
      ·obtain rfl : k = i := by omega
       exact absurd h7 h4
     ·intro h; exact absurd h hz
  ·rw [if_neg (fun h => hx (hm.1 h))]
   constructor
   ·intro h; cases h
   ·rintro ⟨h, _⟩
    obtain ⟨_, h', _⟩ := h i (by omega) hlt
    exact absurd h' hx
end Go.Proofs.YtbbpcbjgekencaaGreatDoor.PS
end
section
set_option linter.unusedVariables false
set_option linter.unusedSimpArgs false
set_option linter.unusedVariables false
set_option linter.unusedSimpArgs false
namespace Go.Proofs.YtbbpcbjgekencaaGreatDoor.PS
open Go Go.Proofs.YtbbpcbjgekencaaGreatDoor.Q Go.Proofs.YtbbpcbjgekencaaGreatDoor.FT Go.Proofs.YtbbpcbjgekencaaGreatDoor.Ev
abbrev Blk := S61
noncomputable abbrev blks (l : List Chk) : List Blk := H.blkAll l
theorem w64 {x : Int} (h : -9223372036854775808 ≤ x ∧ x ≤ 9223372036854775807) : Go.RowKit.wrap64 x = x := by unfold Go.RowKit.wrap64; omega
theorem live_bit : ∀ b : Fin 256, ∀ j : Fin 8, ((Int.tmod (IntKind.u64.wrap (Int.tdiv ((b.val : Nat) : Int) ((2 ^ j.val : Nat) : Int))) 2) == 1) = H.bitAt ((b.val : Nat) : Int) j.val := by decide +kernel
theorem power_at (k : Nat) : ∀ j : Nat, j < 8 → r10_power.f (k + 20) (j : Int) = some ((2 ^ j : Nat) : Int) := by
 intro j hj
 rcases (show j = 0 ∨ j = 1 ∨ j = 2 ∨ j = 3 ∨ j = 4 ∨ j = 5 ∨ j = 6 ∨ j = 7 by omega) with rfl | rfl | rfl | rfl | rfl | rfl | rfl | rfl <;> kernel_rfl
theorem live_eq (k : Nat) (a0 a1 a2 a3 b : Int) (hb : 0 ≤ b ∧ b < 256) (j : Nat) (h : j < 8) : r10_Live.f (k + 20) a0 a1 a2 a3 b (j : Int) = some (H.bitAt b j) := by
 unfold r10_Live.f
 have h2 := Nat.two_pow_pos j
 obtain ⟨n, rfl⟩ : ∃ n : Nat, b = (n : Int) := ⟨b.toNat, by omega⟩
 rw [power_at k j h, Option.bind_some, if_neg (by omega)]
 exact congrArg some (live_bit ⟨n, by omega⟩ ⟨j, h⟩)
theorem Evt.at {α : Type} {g : Nat → Option α} {r : α} (n : Nat) (h : ∀ k, g (k + n) = Option.some r) : Evt g r :=
 ⟨n, fun k hk => by obtain ⟨j, rfl⟩ : ∃ j, k = j + n := ⟨k - n, by omega⟩; exact h j⟩
theorem many_eqE (c : Int) (h : c = 0 ∨ c = 1 ∨ c = 2) : Evt (fun k => r09_Many.f k c) (H.manyW c) :=
 Evt.at 20 fun k => by rw [many_ref k c h]; rcases h with rfl | rfl | rfl <;> rfl
theorem big_le2 {a : Nat} (h : a ≤ 1073741824) : a + 1 ≤ big := by unfold big; omega
theorem refBlocks_in (cs : List Chk) (hl : cs.length ≤ 1048576) (i : Nat) (hi : i < cs.length) (hc : OkC cs[i]) (acc : List Blk) (ha : acc.length ≤ 104857600) {r : List Blk}
  (h0 : Evt (fun k => r11_Blocks.c5 k ((i + 1 : Nat) : Int) cs (acc ++ (H.onesI cs[i].f4 (H.manyW cs[i].f1)).map (H.mkB i cs[i].f1))) r) :
  Evt (fun k => r11_Blocks.c12 k (i : Int) 0 cs acc) r := by
 have hw1 : IntKind.i64.wrap ((i : Int) + 1) = ((i + 1 : Nat) : Int) := i64w (by omega) (by omega)
 by_cases hk : cs[i].f0 = 1
 ·have hrun := hc.run hk
  have hb4 := hc.2
  obtain ⟨M, hM, hM8⟩ : ∃ M : Nat, H.manyW cs[i].f1 = (M : Int) ∧ M ≤ 8 := by
   rcases hrun.2.2 with h | h | h
   ·exact ⟨8, by rw [h.1]; decide, by omega⟩
   ·exact ⟨4, by rw [h.1]; decide, by omega⟩
   ·exact ⟨2, by rw [h.1]; decide, by omega⟩
  have hb : 0 ≤ cs[i].f4 ∧ cs[i].f4 < 256 := by omega
  have hmany := many_eqE cs[i].f1 (by omega)
  have hones : H.onesI cs[i].f4 (H.manyW cs[i].f1) = ((List.range M).filter (H.bitAt cs[i].f4)).map fun (k : Nat) => (k : Int) := by
   unfold H.onesI H.ones
   rw [hM]
   congr 3
   omega
  rw [hones, List.map_map] at h0
  have key : ∀ (d j : Nat), M - j = d → j ≤ M → Evt (fun k => r11_Blocks.c12 k (i : Int) (j : Int) cs (acc ++ ((List.range j).filter (H.bitAt cs[i].f4)).map (H.mkB i cs[i].f1 ∘ fun (k : Nat) => (k : Int)))) r := by
   intro d
   induction d with
   | zero =>
    intro j hd hj
    obtain rfl : j = M := by omega
    refine Evt.step (fun k => by rw [r11_Blocks.c12, if_pos (by omega), if_pos (by omega), if_pos (by omega), gd cs i _ hi, if_pos (by simpa using hk), if_pos (by omega), if_pos (by omega), if_pos (by omega)]) ?_
    refine Evt.bind hmany ?_
    exact Evt.congr h0 (fun k => by rw [if_neg (by rw [hM]; simp), hw1])
   | succ d ih =>
    intro j hd hj
    have h1 := ih (j + 1) (by omega) (by omega)
    rw [List.range_succ, List.filter_append, List.map_append, ← List.append_assoc] at h1
    have hlen : (acc ++ ((List.range j).filter (H.bitAt cs[i].f4)).map (H.mkB i cs[i].f1 ∘ fun (k : Nat) => (k : Int))).length ≤ 104857608 := by
     rw [List.length_append, List.length_map]
     have := List.length_filter_le (H.bitAt cs[i].f4) (List.range j)
     rw [List.length_range] at this
     omega
    generalize (acc ++ ((List.range j).filter (H.bitAt cs[i].f4)).map (H.mkB i cs[i].f1 ∘ fun (k : Nat) => (k : Int))) = A at h1 hlen ⊢
    refine Evt.step (fun k => by rw [r11_Blocks.c12, if_pos (by omega), if_pos (by omega), if_pos (by omega), gd cs i _ hi, if_pos (by simpa using hk), if_pos (by omega), if_pos (by omega), if_pos (by omega)]) ?_
    refine Evt.bind hmany ?_
    have hlive : Evt (fun k => r10_Live.f k cs[i].f0 cs[i].f1 cs[i].f2 cs[i].f3 cs[i].f4 (j : Int)) (H.bitAt cs[i].f4 j) := Evt.at 20 fun k => live_eq k _ _ _ _ _ hb j (by omega)
    have hwj : IntKind.i64.wrap ((j : Int) + 1) = ((j + 1 : Nat) : Int) := i64w (by omega) (by omega)
    refine Evt.congr (f := fun k => (r10_Live.f k cs[i].f0 cs[i].f1 cs[i].f2 cs[i].f3 cs[i].f4 (j : Int)).bind fun y2 => (if y2 = true then (if 0 ≤ (i : Int) then (if (i : Int) < (cs.length : Int) then (if (i : Int).toNat < cs.length then ((r09_Block.f k cs[i].f1).bind fun y3 => (if A.length + [S61.mk (i : Int) (j : Int) y3].length ≤ big then (r11_Blocks.c15 k (i : Int) (j : Int) cs (A ++ [S61.mk (i : Int) (j : Int) y3])) else none)) else none) else none) else none) else (r11_Blocks.c15 k (i : Int) (j : Int) cs A))) ?_ (fun k => by rw [if_pos (by rw [hM]; simp; omega), if_pos (by omega), if_pos (by omega), if_pos (by omega)])
    refine Evt.bind hlive ?_
    cases hbit : H.bitAt cs[i].f4 j with
    | true =>
     refine Evt.congr (f := fun k => r11_Blocks.c15 k (i : Int) (j : Int) cs (A ++ [H.mkB i cs[i].f1 (j : Int)])) ?_ (fun k => by
      rw [if_pos rfl, if_pos (by omega), if_pos (by omega), if_pos (by omega), blk09, Option.bind_some, if_pos (by rw [List.length_singleton]; exact big_le2 (by omega))]
      rfl)
     refine Evt.step (f := fun k => r11_Blocks.c12 k (i : Int) ((j + 1 : Nat) : Int) cs (A ++ [H.mkB i cs[i].f1 (j : Int)])) (fun k => by rw [r11_Blocks.c15, hwj]) ?_
     simpa [hbit] using h1
    | false =>
     refine Evt.congr (f := fun k => r11_Blocks.c15 k (i : Int) (j : Int) cs A) ?_ (fun k => by rw [if_neg (by decide)])
     refine Evt.step (f := fun k => r11_Blocks.c12 k (i : Int) ((j + 1 : Nat) : Int) cs A) (fun k => by rw [r11_Blocks.c15, hwj]) ?_
     simpa [hbit] using h1
  have h := key M 0 (by omega) (by omega)
  simpa using h
 ·have hnone : H.onesI cs[i].f4 (H.manyW cs[i].f1) = [] := by
   have h4 : cs[i].f4 = 0 := by have := (okC_iff _).mp hc.1; omega
   unfold H.onesI H.ones
   rw [List.map_eq_nil_iff, List.filter_eq_nil_iff]
   intro x hx
   rw [h4]
   unfold H.bitAt
   rw [Int.zero_ediv]
   decide
  rw [hnone, List.map_nil, List.append_nil] at h0
  refine Evt.step (fun k => ?_) h0
  rw [r11_Blocks.c12, if_pos (by omega), if_pos (by omega), if_pos (by omega), gd cs i _ hi, if_neg (by simpa using hk), hw1]
theorem refBlocks_l (cs : List Chk) (hl : cs.length ≤ 1048576) (hok : ∀ c ∈ cs, OkC c) : ∀ (d i : Nat), cs.length - i = d → i ≤ cs.length →
  Evt (fun k => r11_Blocks.c5 k (i : Int) cs (blks (cs.take i))) (blks cs) := by
 intro d
 induction d with
 | zero =>
  intro i hd hi
  obtain rfl : i = cs.length := by omega
  rw [List.take_length]
  exact Evt.step (f := fun _ => some (blks cs)) (fun k => by rw [r11_Blocks.c5, if_neg (by simp)]) (Evt.some _)
 | succ d ih =>
  intro i hd hi
  have hlt : i < cs.length := by omega
  have hr := (hok _ (List.getElem_mem hlt)).range
  have h := ih (i + 1) (by omega) (by omega)
  unfold blks at h
  rw [H.blkAll_take cs i hlt] at h
  unfold H.blkOne at h
  rw [← List.append_assoc] at h
  have hlen : (blks (cs.take i)).length ≤ 9 * i := H.blkAll_take_len cs i (by omega)
  have hh := H.huge_len i cs[i].f0 cs[i].f3
  have hj := refBlocks_in cs hl i hlt (hok _ (List.getElem_mem hlt)) (H.blkAll (cs.take i) ++ H.huge i cs[i].f0 cs[i].f3) (by rw [List.length_append]; have : (H.blkAll (cs.take i)).length ≤ 9 * i := hlen; omega) h
  have hj1 : Evt (fun k => r11_Blocks.c9 k (i : Int) cs (H.blkAll (cs.take i) ++ H.huge i cs[i].f0 cs[i].f3)) (blks cs) := Evt.step (fun k => by rw [r11_Blocks.c9]) hj
  refine Evt.step (fun k => ?_) hj1
  rw [r11_Blocks.c5, if_pos (decide_eq_true (by omega)), if_pos (by omega), if_pos (by omega), if_pos (by omega), gd cs i _ hlt]
  unfold H.huge
  by_cases h2 : cs[i].f0 = 2
  ·rw [if_pos (by simpa using h2), if_pos h2, if_pos (by omega), if_pos (by omega), if_pos (by omega), if_pos (by rw [List.length_singleton]; exact big_le2 (by omega)), Int.mul_comm, i64w (by omega) (by omega), w64 (by omega)]
  ·rw [if_neg (by simpa using h2), if_neg h2, List.append_nil]
theorem refBlocks_eq (l : List Int) (hl : l.length ≤ 1048576) (hw : U64 l) : Evt (fun k => r11_Blocks.f k l) (blks (chV l).2) := by
 unfold r11_Blocks.f
 refine Evt.bind (refChunksT_eq l hl hw) ?_
 have h := refBlocks_l (chV l).2 (Nat.le_trans (chV_len l) hl) (chV_ok l hw) _ 0 rfl (Nat.zero_le _)
 simpa [blks, H.blkAll] using h
end Go.Proofs.YtbbpcbjgekencaaGreatDoor.PS
end
section
set_option linter.unusedVariables false
set_option linter.unusedSimpArgs false
set_option linter.unusedVariables false
set_option linter.unusedSimpArgs false
namespace Go.Proofs.YtbbpcbjgekencaaGreatDoor.PS
open Go Go.Proofs.YtbbpcbjgekencaaGreatDoor.Q Go.Proofs.YtbbpcbjgekencaaGreatDoor.FT Go.Proofs.YtbbpcbjgekencaaGreatDoor.Ev
theorem tdivN (a b : Nat) : Int.tdiv (a : Int) (b : Int) = ((a / b : Nat) : Int) := by rw [Int.tdiv_eq_ediv_of_nonneg (by omega)]; norm_cast
theorem tmodN (a b : Nat) : Int.tmod (a : Int) (b : Int) = ((a % b : Nat) : Int) := by rw [Int.tmod_eq_emod_of_nonneg (by omega)]; norm_cast
theorem xor_step (z i : Nat) : z % 2 ^ (i + 1) = z % 2 ^ i + 2 ^ i * (z / 2 ^ i % 2) := Nat.mod_pow_succ
theorem xor_bit (x y i : Nat) : (x ^^^ y) / 2 ^ i % 2 = (if x / 2 ^ i % 2 ≠ y / 2 ^ i % 2 then 1 else 0) := by
 rw [Nat.xor_div_two_pow, H.xor_mod2]
 split <;> omega
theorem pow31 (i : Nat) (h : i ≤ 31) : 2 ^ i ≤ 2147483648 := by
 have : 2 ^ i ≤ 2 ^ 31 := Nat.pow_le_pow_right (by decide) h
 omega
theorem xor_l (x y : Nat) (hx : x < 4294967296) (hy : y < 4294967296) : ∀ (d i p : Nat), 32 - i = d → i ≤ 32 → (i < 32 → p = 2 ^ i) →
  Evt (fun k => r02_xor.c5 k (x : Int) (y : Int) (((x ^^^ y) % 2 ^ i : Nat) : Int) (p : Int) (i : Int)) ((x ^^^ y : Nat) : Int) := by
 intro d
 induction d with
 | zero =>
  intro i p hd hi hp
  obtain rfl : i = 32 := by omega
  have : (x ^^^ y) % 2 ^ 32 = x ^^^ y := Nat.mod_eq_of_lt (Nat.xor_lt_two_pow hx hy)
  rw [this]
  exact Evt.step (f := fun _ => some ((x ^^^ y : Nat) : Int)) (fun k => by rw [r02_xor.c5, if_neg (by decide)]) (Evt.some _)
 | succ d ih =>
  intro i p hd hi hp
  have hi32 : i < 32 := by omega
  obtain rfl := hp hi32
  have hpp := Nat.two_pow_pos i
  have hp31 := pow31 i (by omega)
  have hz := xor_step (x ^^^ y) i
  rw [xor_bit] at hz
  have hlt : (x ^^^ y) % 2 ^ i < 2 ^ i := Nat.mod_lt _ hpp
  have hd1 : x / 2 ^ i ≤ x := Nat.div_le_self _ _
  have hd2 : y / 2 ^ i ≤ y := Nat.div_le_self _ _
  have nx : Evt (fun k => r02_xor.c9 k (x : Int) (y : Int) (((x ^^^ y) % 2 ^ (i + 1) : Nat) : Int) ((2 ^ i : Nat) : Int) (i : Int)) ((x ^^^ y : Nat) : Int) := by
   have h := ih (i + 1) (if i < 31 then 2 ^ (i + 1) else 2 ^ i) (by omega) (by omega) (fun h => by rw [if_pos (by omega)])
   refine Evt.step (f := fun k => r02_xor.c8 k (x : Int) (y : Int) (((x ^^^ y) % 2 ^ (i + 1) : Nat) : Int) ((if i < 31 then 2 ^ (i + 1) else 2 ^ i : Nat) : Int) (i : Int)) (fun k => ?_) (Evt.step (fun k => by rw [r02_xor.c8, i64w (by omega) (by omega)]; rfl) h)
   rw [r02_xor.c9]
   by_cases h31 : i < 31
   ·rw [if_pos (decide_eq_true (by omega)), if_pos h31]
    have : 2 ^ (i + 1) ≤ 2147483648 := pow31 (i + 1) (by omega)
    have e : (2 : Int) * ((2 ^ i : Nat) : Int) = ((2 ^ (i + 1) : Nat) : Int) := by rw [Nat.pow_succ]; omega
    rw [e, u32w (by omega) (by omega)]
   ·rw [if_neg (by simp; omega), if_neg h31]
  refine Evt.step (fun k => ?_) nx
  rw [r02_xor.c5, if_pos (decide_eq_true (by omega)), if_neg (by omega), if_neg (by omega), tdivN, tdivN]
  have hx2 : x / 2 ^ i < 4294967296 := by omega
  have hy2 : y / 2 ^ i < 4294967296 := by omega
  generalize x / 2 ^ i = qx at hz hx2 hd1 ⊢
  generalize y / 2 ^ i = qy at hz hy2 hd2 ⊢
  rw [u32w (x := (qx : Int)) (by omega) (by omega), u32w (x := (qy : Int)) (by omega) (by omega), show (2 : Int) = ((2 : Nat) : Int) from rfl, tmodN, tmodN]
  by_cases hb : qx % 2 ≠ qy % 2
  ·rw [if_pos (by simp; omega)]
   rw [if_pos hb, Nat.mul_one] at hz
   rw [hz]
   generalize (x ^^^ y) % 2 ^ i = A at hlt ⊢
   generalize 2 ^ i = B at hlt hp31 ⊢
   rw [u32w (by omega) (by omega)]
   rfl
  ·rw [if_neg (by simp; omega)]
   rw [if_neg hb, Nat.mul_zero] at hz
   have hz2 : (x ^^^ y) % 2 ^ (i + 1) = (x ^^^ y) % 2 ^ i := hz
   rw [hz2]
theorem xor_eq (x y : Nat) (hx : x < 4294967296) (hy : y < 4294967296) : Evt (fun k => r02_xor.f k (x : Int) (y : Int)) ((x ^^^ y : Nat) : Int) := by
 have := xor_l x y hx hy 32 0 1 (by omega) (by omega) (by simp)
 simpa [r02_xor.f, Nat.mod_one] using this
theorem on_l : ∀ (d i r w : Nat), 64 - i = d → i ≤ 64 → r < 4294967296 → w < 18446744073709551616 → Evt (fun k => r02_On.c3 k (r : Int) (w : Int) (i : Int)) ((H.onN d r w : Nat) : Int) := by
 intro d
 induction d with
 | zero =>
  intro i r w hd hi hr hw
  exact Evt.step (f := fun _ => some (r : Int)) (fun k => by rw [r02_On.c3, if_neg (by simp; omega)]) (Evt.some _)
 | succ d ih =>
  intro i r w hd hi hr hw
  have nx : ∀ r' : Nat, r' < 4294967296 → Evt (fun k => r02_On.c9 k (r' : Int) (w : Int) (i : Int)) ((H.onN d r' (w / 2) : Nat) : Int) := fun r' h' =>
   Evt.step (fun k => by rw [r02_On.c9, show (2 : Int) = ((2 : Nat) : Int) from rfl, tdivN, u64w (by omega) (by omega), i64w (by omega) (by omega)]; rfl) (ih (i + 1) r' (w / 2) (by omega) (by omega) h' (by omega))
  have t1 : IntKind.u64.wrap (Int.tmod (r : Int) 2) = ((r % 2 : Nat) : Int) := by rw [show (2 : Int) = ((2 : Nat) : Int) from rfl, tmodN, u64w (by omega) (by omega)]
  have t2 : Int.tmod (w : Int) 2 = ((w % 2 : Nat) : Int) := by rw [show (2 : Int) = ((2 : Nat) : Int) from rfl, tmodN]
  have t3 : IntKind.u32.wrap (Int.tdiv (r : Int) 2) = ((r / 2 : Nat) : Int) := by rw [show (2 : Int) = ((2 : Nat) : Int) from rfl, tdivN, u32w (by omega) (by omega)]
  by_cases hb : r % 2 = w % 2
  ·have e : H.onN (d + 1) r w = H.onN d (r / 2) (w / 2) := by rw [H.onN, if_pos hb, Nat.xor_zero]
   rw [e]
   refine Evt.step (fun k => ?_) (nx (r / 2) (by omega))
   rw [r02_On.c3, if_pos (decide_eq_true (by omega)), t1, t2, t3, if_neg (by simp; omega)]
  ·have e : H.onN (d + 1) r w = H.onN d (r / 2 ^^^ 3988292384) (w / 2) := by rw [H.onN, if_neg hb]
   rw [e]
   have hx := xor_eq (r / 2) 3988292384 (by omega) (by omega)
   refine Evt.step (f := fun k => (r02_xor.f k ((r / 2 : Nat) : Int) 3988292384).bind fun y0 => r02_On.c9 k y0 (w : Int) (i : Int)) (fun k => ?_) (Evt.bind hx (nx (r / 2 ^^^ 3988292384) (Nat.xor_lt_two_pow (n := 32) (by omega) (by omega))))
   rw [r02_On.c3, if_pos (decide_eq_true (by omega)), t1, t2, t3, if_pos (by simp; omega)]
theorem on_eq (r w : Nat) (hr : r < 4294967296) (hw : w < 18446744073709551616) : Evt (fun k => r02_On.f k (r : Int) (w : Int)) ((H.cBytes 8 r w : Nat) : Int) := by
 rw [H.cBytes_eq]
 exact on_l 64 0 r w (by omega) (by omega) hr hw
theorem getD_toNat (l : List Int) (i : Nat) (h : i < l.length) (hl : U64 l) : l.getD (i : Int).toNat 0 = (((l.map Int.toNat)[i]'(by simpa using h) : Nat) : Int) := by
 rw [Int.toNat_natCast, List.getD_eq_getElem?_getD, List.getElem?_eq_getElem h, List.getElem_map]
 have := (hl _ (List.getElem_mem h)).1
 show l[i] = _
 omega
theorem more_l (l : List Int) (hl : U64 l) (hlen : l.length ≤ 1048576) : ∀ (d i r : Nat), l.length - i = d → i ≤ l.length → r < 4294967296 →
  Evt (fun k => r02_More.c4 k l (r : Int) (i : Int)) ((4294967295 - H.crcRun r ((l.map Int.toNat).drop i) : Nat) : Int) := by
 intro d
 induction d with
 | zero =>
  intro i r hd hi hr
  obtain rfl : i = l.length := by omega
  have : (l.map Int.toNat).drop l.length = [] := by simp
  rw [this]
  refine Evt.step (f := fun _ => some ((4294967295 - r : Nat) : Int)) (fun k => ?_) (Evt.some _)
  rw [r02_More.c4, if_neg (by simp), u32w (by omega) (by omega)]
  congr 1
  omega
 | succ d ih =>
  intro i r hd hi hr
  have hlt : i < l.length := by omega
  have hlt' : i < (l.map Int.toNat).length := by simpa using hlt
  have hw : (l.map Int.toNat)[i] < 18446744073709551616 := by
   rw [List.getElem_map]
   have := hl _ (List.getElem_mem hlt)
   have h1 := this.1
   have h2 := this.2
   omega
  have hon := on_eq r (l.map Int.toNat)[i] hr hw
  have hlt2 : H.cBytes 8 r (l.map Int.toNat)[i] < 4294967296 := by rw [H.cBytes_eq]; exact H.onN_lt _ _ _ hr
  have h := ih (i + 1) (H.cBytes 8 r (l.map Int.toNat)[i]) (by omega) (by omega) hlt2
  rw [List.drop_eq_getElem_cons hlt']
  refine Evt.step (f := fun k => (r02_On.f k (r : Int) (((l.map Int.toNat)[i] : Nat) : Int)).bind fun y0 => r02_More.c4 k l y0 ((i + 1 : Nat) : Int)) (fun k => ?_) (Evt.bind hon h)
  rw [r02_More.c4, if_pos (decide_eq_true (by omega)), if_pos (by omega), if_pos (by omega), getD_toNat l i hlt hl, i64w (by omega) (by omega)]
  rfl
theorem crc_eq (l : List Int) (hl : U64 l) (hlen : l.length ≤ 1048576) : Evt (fun k => r02_Of.f k l) (H.sealL l) := by
 have h := more_l l hl hlen l.length 0 4294967295 (by omega) (by omega) (by omega)
 unfold r02_Of.f r02_More.f
 refine Evt.bind (a := H.sealL l) ?_ (Evt.some _)
 rw [List.drop_zero] at h
 refine Evt.congr h (fun k => ?_)
 rw [show IntKind.u32.wrap (4294967295 - 0) = ((4294967295 : Nat) : Int) by decide +kernel]
 rfl
theorem refEnc_rounds (k : Nat) (w l : Int) : r06_Encode.c9 (k + 9) 0 (ByteArray.mk (Array.mk [84, 83, 65, 70, 75, 67, 79, 76])) 0 w l =
  (r05_Chunks.f k w l).bind fun y1 => (r02_Of.f k [6076272092419149644, 1, IntKind.u64.wrap w, IntKind.u64.wrap l, IntKind.u64.wrap y1, 0, 0]).bind fun y2 =>
   some (0, [6076272092419149644, 1, IntKind.u64.wrap w, IntKind.u64.wrap l, IntKind.u64.wrap y1, 0, 0] ++ [IntKind.u64.wrap y2]) := by kernel_rfl
theorem sealL_lt (l : List Int) : 0 ≤ H.sealL l ∧ H.sealL l < 4294967296 := by
 unfold H.sealL
 have := H.crcL_lt 0 (l.map Int.toNat)
 omega
theorem Evt.shift {α : Type} {g f : Nat → Option α} {r : α} (n : Nat) (h : ∀ k, g (k + n) = f k) (e : Evt f r) : Evt g r := by
 obtain ⟨K, hK⟩ := e
 refine ⟨K + n, fun k hk => ?_⟩
 obtain ⟨j, rfl⟩ : ∃ j, k = j + n := ⟨k - n, by omega⟩
 rw [h]
 exact hK j (by omega)
theorem refEnc_yes (w l : Int) (h : Geo w l) (hw : w ≤ 1048576) : Evt (fun k => r06_Encode.f k w l) (0, H.headL w l (chunksG w l)) := by
 have hl := h.l
 have hg : 1 ≤ chunksG w l := h
 unfold r06_Encode.f
 refine Evt.bind (Evt.shift 2000 (fun k => refRight05_eq k w l) (Evt.some _)) ?_
 rw [decide_eq_true h]
 refine Evt.congr (f := fun k => r06_Encode.c9 k 0 (ByteArray.mk (Array.mk [84, 83, 65, 70, 75, 67, 79, 76])) 0 w l) ?_ (fun k => by rw [if_neg (by simp)])
 refine Evt.shift 9 (fun k => refEnc_rounds k w l) ?_
 refine Evt.bind (Evt.shift 2000 (fun k => refChunks_eq k w l) (Evt.some _)) ?_
 rw [u64w (x := w) (by omega) (by omega), u64w (x := l) (by omega) (by omega), u64w (x := chunksG w l) (by omega) (by omega)]
 have hU : U64 [6076272092419149644, 1, w, l, chunksG w l, 0, 0] := by
  intro x hx
  simp only [List.mem_cons, List.not_mem_nil, or_false] at hx
  unfold Wd
  rcases hx with rfl | rfl | rfl | rfl | rfl | rfl | rfl <;> omega
 refine Evt.bind (crc_eq _ hU (by simp)) ?_
 have := sealL_lt [6076272092419149644, 1, w, l, chunksG w l, 0, 0]
 rw [u64w (by omega) (by omega)]
 exact Evt.some _
end Go.Proofs.YtbbpcbjgekencaaGreatDoor.PS
end
