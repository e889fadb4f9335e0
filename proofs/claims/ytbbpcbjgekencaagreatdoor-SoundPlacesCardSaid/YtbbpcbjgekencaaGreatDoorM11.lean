import Derived.Test.YtbbpcbjgekencaaGreatDoorM10
section
set_option linter.unusedVariables false
set_option linter.unusedSimpArgs false
set_option linter.unusedVariables false
set_option linter.unusedSimpArgs false
namespace Go.Proofs.YtbbpcbjgekencaaGreatDoor.PS
open Go Go.Proofs.YtbbpcbjgekencaaGreatDoor.Q Go.Proofs.YtbbpcbjgekencaaGreatDoor.FT Go.Proofs.YtbbpcbjgekencaaGreatDoor.Ev
theorem rightGo_at (cs : List Chk) (hok : ∀ c ∈ cs, OkC c) (h : rightGo 0 cs = true) (i : Nat) (hi : i < cs.length) : rightAt cs i := by
 have h' := rightGo_iff cs hok cs.length 0 0 (by omega) (by omega) (by omega) (fun k _ h => by omega) (fun h => by omega)
 rw [List.drop_zero] at h'
 exact (h'.mp h).1 i (Nat.zero_le _) hi
def SzOk (b : Blk) : Prop := (b.f2 = 4 ∨ b.f2 = 8 ∨ b.f2 = 16) ∨ (b.f1 = 0 ∧ ∃ m : Int, 1 ≤ m ∧ b.f2 = 32 * m)
theorem blk_in (cs : List Chk) (hl : cs.length ≤ 1048576) (hok : ∀ c ∈ cs, OkC c) (h : rightGo 0 cs = true) : ∀ b ∈ blks cs, BlkIn (cs.length : Int) b ∧ SzOk b := by
 intro b hb
 unfold blks H.blkAll at hb
 rw [List.mem_flatMap] at hb
 obtain ⟨⟨c, i⟩, hp, hb⟩ := hb
 have hp := List.mk_mem_zipIdx_iff_getElem?.mp hp
 obtain ⟨hi, rfl⟩ := List.getElem?_eq_some_iff.mp hp
 have hc := hok _ (List.getElem_mem hi)
 unfold H.blkOne at hb
 rw [List.mem_append] at hb
 rcases hb with hb | hb
 ·unfold H.huge at hb
  split at hb
  ·rename_i h2
   simp only [List.mem_singleton] at hb
   subst hb
   have hh := hc.huge h2
   obtain ⟨_, _, hf⟩ := rightGo_at cs hok h i hi
   have hf := hf h2
   have e : Go.RowKit.wrap64 (cs[i].f3 * 32) = cs[i].f3 * 32 := w64 (by omega)
   refine ⟨⟨by show (0 : Int) ≤ (i : Int); omega, by show (i : Int) < _; omega, by show (0 : Int) ≤ 0; omega, by show (4 : Int) ≤ Go.RowKit.wrap64 _; omega, ?_, .inl rfl, by show (0 : Int) < 8; omega⟩, .inr ⟨rfl, cs[i].f3, by omega, by show Go.RowKit.wrap64 _ = _; omega⟩⟩
   show 32 * (i : Int) + 0 * Go.RowKit.wrap64 (cs[i].f3 * 32) + Go.RowKit.wrap64 (cs[i].f3 * 32) ≤ _
   rw [e]
   omega
  ·cases hb
 ·rw [List.mem_map] at hb
  obtain ⟨j, hj, rfl⟩ := hb
  unfold H.onesI at hj
  rw [List.mem_map] at hj
  obtain ⟨n, hn, rfl⟩ := hj
  unfold H.ones at hn
  rw [List.mem_filter, List.mem_range] at hn
  obtain ⟨hn, hbit⟩ := hn
  have hc1 : cs[i].f1 = 0 ∨ cs[i].f1 = 1 ∨ cs[i].f1 = 2 := by
   have := hc.range
   by_cases h3 : cs[i].f1 = 3
   ·rw [h3] at hn
    have : H.manyW 3 = 0 := by decide
    rw [this] at hn
    omega
   ·omega
  have key : ∀ (w m : Int), (n : Int) < m → m * w = 32 → (w = 4 ∨ w = 8 ∨ w = 16) → BlkIn (cs.length : Int) ⟨(i : Int), (n : Int), w⟩ ∧ SzOk ⟨(i : Int), (n : Int), w⟩ := by
   intro w m hnm hmw hw
   have hfit : (n : Int) * w + w ≤ 32 := by
    rcases hw with rfl | rfl | rfl <;> omega
   exact ⟨⟨by show (0 : Int) ≤ (i : Int); omega, by show (i : Int) < _; omega, by show (0 : Int) ≤ (n : Int); omega, by show (4 : Int) ≤ w; omega, by show 32 * (i : Int) + (n : Int) * w + w ≤ _; omega, .inr (by show w < 32; omega), by show (n : Int) < 8; rcases hw with rfl | rfl | rfl <;> omega⟩, .inl hw⟩
  rcases hc1 with e | e | e
  ·rw [e] at hn
   have e2 : H.manyW 0 = 8 := by decide
   rw [e2] at hn
   have := key 4 8 (by omega) (by omega) (by omega)
   unfold H.mkB
   rw [e]
   exact this
  ·rw [e] at hn
   have e2 : H.manyW 1 = 4 := by decide
   rw [e2] at hn
   have := key 8 4 (by omega) (by omega) (by omega)
   unfold H.mkB
   rw [e]
   exact this
  ·rw [e] at hn
   have e2 : H.manyW 2 = 2 := by decide
   rw [e2] at hn
   have := key 16 2 (by omega) (by omega) (by omega)
   unfold H.mkB
   rw [e]
   exact this
def wd (x : List Int) (a : Int) : Int := x.getD a.toNat 0
def mkH (h : Int × Int × Int × Bool) (w : Int) : Int × Int × Int × Bool := (h.1, h.2.1, h.2.2.1, h.2.2.2 && roomS h.2.1 == w)
def hdV (x : List Int) (l : Int) (b : Blk) : Int × Int × Int × Bool := mkH (headT (wd x (placeG (x.length : Int) l b)) (wd x (placeG (x.length : Int) l b + 1))) b.f2
theorem place_fit {x : List Int} {l : Int} {b : Blk} (h : Geo (x.length : Int) l) (hb : BlkIn (chunksG (x.length : Int) l) b) : 0 ≤ placeG (x.length : Int) l b ∧ placeG (x.length : Int) l b + b.f2 ≤ x.length := by
 have h1 := h.l
 have h2 := hb.fit
 have h3 := hb.mul
 have h4 := hb.c0
 have h5 : 1 ≤ chunksG (x.length : Int) l := h
 unfold placeG heapAt
 omega
end Go.Proofs.YtbbpcbjgekencaaGreatDoor.PS
end
section
set_option linter.unusedVariables false
set_option linter.unusedSimpArgs false
set_option linter.unusedVariables false
set_option linter.unusedSimpArgs false
namespace Go.Proofs.YtbbpcbjgekencaaGreatDoor.PS
open Go Go.Proofs.YtbbpcbjgekencaaGreatDoor.Q Go.Proofs.YtbbpcbjgekencaaGreatDoor.FT Go.Proofs.YtbbpcbjgekencaaGreatDoor.Ev
abbrev Obj := S64
end Go.Proofs.YtbbpcbjgekencaaGreatDoor.PS
end
section
set_option linter.unusedVariables false
set_option linter.unusedSimpArgs false
set_option linter.unusedVariables false
set_option maxRecDepth 100000
namespace Go.Proofs.YtbbpcbjgekencaaGreatDoor.PS
open Go Go.Proofs.YtbbpcbjgekencaaGreatDoor.Q Go.Proofs.YtbbpcbjgekencaaGreatDoor.FT Go.Proofs.YtbbpcbjgekencaaGreatDoor.Ev
theorem awake_k (k : Nat) : l16_awake.f (k + 700) = some true := by kernel_rfl
end Go.Proofs.YtbbpcbjgekencaaGreatDoor.PS
end
section
set_option linter.unusedVariables false
set_option linter.unusedSimpArgs false
set_option linter.unusedVariables false
set_option linter.unusedSimpArgs false
namespace Go.Proofs.YtbbpcbjgekencaaGreatDoor.PS
open Go Go.Proofs.YtbbpcbjgekencaaGreatDoor.Q Go.Proofs.YtbbpcbjgekencaaGreatDoor.FT Go.Proofs.YtbbpcbjgekencaaGreatDoor.Ev
def encC (c : Chk) : Int := c.f0 + 8 * c.f1 + 32 * c.f2 + 2048 * c.f3 + 16777216 * c.f4
theorem encode_eq (k : Nat) {c : Chk} (h : OkC c) : r10_Encode.f (k + 21) c.f0 c.f1 c.f2 c.f3 c.f4 = some (encC c, 0) := by
 have hr := h.range
 unfold r10_Encode.f
 have hc : rightC c.f0 c.f1 c.f2 c.f3 c.f4 = true := h.1
 rw [refRight_eq, Option.bind_some, hc, if_neg (by decide)]
 rw [u64w (x := c.f0) (by omega) (by omega), u64w (x := c.f1) (by omega) (by omega), u64w (x := c.f2) (by omega) (by omega), u64w (x := c.f3) (by omega) (by omega)]
 rw [u64w (x := 8 * c.f1) (by omega) (by omega), u64w (x := 32 * c.f2) (by omega) (by omega), u64w (x := 2048 * c.f3) (by omega) (by omega), u64w (x := 16777216 * c.f4) (by omega) (by omega)]
 rw [u64w (x := c.f0 + 8 * c.f1) (by omega) (by omega), u64w (x := c.f0 + 8 * c.f1 + 32 * c.f2) (by omega) (by omega), u64w (x := c.f0 + 8 * c.f1 + 32 * c.f2 + 2048 * c.f3) (by omega) (by omega), u64w (x := c.f0 + 8 * c.f1 + 32 * c.f2 + 2048 * c.f3 + 16777216 * c.f4) (by omega) (by omega)]
 rfl
theorem encC_range {c : Chk} (h : OkC c) : 0 ≤ encC c ∧ encC c < 4294967296 := by
 have hr := h.range
 unfold encC
 omega
theorem decC_enc {c : Chk} (h : OkC c) : decC (encC c) = c := by
 have hr := h.range
 unfold decC encC
 obtain ⟨a, b, d, e, f⟩ := c
 simp only at hr ⊢
 congr 1 <;> omega
theorem decOk_enc {c : Chk} (h : OkC c) : decOk (encC c) = true := by
 have := encC_range h
 unfold decOk
 rw [decC_enc h, h.1, decide_eq_true (by omega)]
 rfl
theorem chV_enc (cs : List Chk) (h : ∀ c ∈ cs, OkC c) : chV (cs.map encC) = (true, cs) := by
 unfold chV
 have h1 : (cs.map encC).all decOk = true := by
  rw [List.all_eq_true]
  intro w hw
  obtain ⟨c, hc, rfl⟩ := List.mem_map.mp hw
  exact decOk_enc (h c hc)
 rw [if_pos h1, List.map_map]
 congr 1
 conv => rhs; rw [← List.map_id cs]
 exact List.map_congr_left fun c hc => decC_enc (h c hc)
theorem U64_enc (cs : List Chk) (h : ∀ c ∈ cs, OkC c) : U64 (cs.map encC) := by
 intro w hw
 obtain ⟨c, hc, rfl⟩ := List.mem_map.mp hw
 have := encC_range (h c hc)
 exact ⟨this.1, by omega⟩
def tailC : Chk := ⟨3, 0, 0, 0, 0⟩
theorem OkC_tail : OkC tailC := ⟨by decide, by decide⟩
theorem encC_tail : encC tailC = 3 := by decide
def expand (c : Chk) : List Chk := c :: List.replicate (if c.f0 = 2 then c.f3.toNat - 1 else 0) tailC
inductive Tabl : List Chk → Prop
 | nil : Tabl []
 | snoc (cs : List Chk) (c : Chk) : Tabl cs → OkC c → c.f0 ≠ 3 → Tabl (cs ++ expand c)
theorem expand_ok {c : Chk} (h : OkC c) : ∀ x ∈ expand c, OkC x := by
 intro x hx
 rcases List.mem_cons.1 hx with rfl | hx
 ·exact h
 ·rw [List.mem_replicate] at hx
  rw [hx.2]; exact OkC_tail
theorem Tabl.ok {cs : List Chk} (h : Tabl cs) : ∀ c ∈ cs, OkC c := by
 induction h with
 | nil => intro c hc; cases hc
 | snoc cs c _ h1 h2 ih =>
  intro x hx
  rcases List.mem_append.1 hx with hx | hx
  ·exact ih x hx
  ·exact expand_ok h1 x hx
theorem rightGo_tails (n : Nat) (cs : List Chk) : rightGo (n : Int) (List.replicate n tailC ++ cs) = rightGo 0 cs := by
 induction n with
 | zero => simp
 | succ n ih =>
  rw [List.replicate_succ, List.cons_append, rightGo]
  rw [if_pos (by constructor <;> intro _ <;> first | rfl | omega), if_pos (by rfl), show ((n + 1 : Nat) : Int) - 1 = (n : Int) by omega]
  exact ih
theorem rightGo_expand {c : Chk} (h : OkC c) (h3 : c.f0 ≠ 3) (cs : List Chk) : rightGo 0 (expand c ++ cs) = rightGo 0 cs := by
 unfold expand
 rw [List.cons_append, rightGo, if_pos (by constructor <;> intro h <;> omega), if_neg h3]
 by_cases h2 : c.f0 = 2
 ·have := h.huge h2
  rw [if_pos h2, if_pos h2]
  have e : c.f3 - 1 = ((c.f3.toNat - 1 : Nat) : Int) := by omega
  rw [e]
  exact rightGo_tails _ cs
 ·rw [if_neg h2, if_neg h2]
  rfl
theorem rightGo_tab {cs : List Chk} (h : Tabl cs) : ∀ ds, rightGo 0 (cs ++ ds) = rightGo 0 ds := by
 induction h with
 | nil => intro ds; rfl
 | snoc cs c _ h1 h2 ih =>
  intro ds
  rw [List.append_assoc, ih, rightGo_expand h1 h2]
theorem Tabl.right {cs : List Chk} (h : Tabl cs) : rightGo 0 cs = true := by
 have := rightGo_tab h []
 rw [List.append_nil] at this
 rw [this]; rfl
def freeC : Chk := ⟨0, 0, 0, 0, 0⟩
theorem OkC_free : OkC freeC := ⟨by decide, by decide⟩
theorem Tabl.free {cs : List Chk} (h : Tabl cs) : ∀ n : Nat, Tabl (cs ++ List.replicate n freeC)
 | 0 => by simpa using h
 | n + 1 => by
  have := Tabl.snoc _ freeC (h.free n) OkC_free (by decide)
  rw [List.replicate_succ', ← List.append_assoc]
  exact this
theorem expand_enc (c : Chk) : (expand c).map encC = encC c :: List.replicate (if c.f0 = 2 then c.f3.toNat - 1 else 0) 3 := by
 unfold expand
 rw [List.map_cons, List.map_replicate, encC_tail]
theorem made_tails (l : List Int) (most : Int) (i : Nat) (c : Chk) (hc : OkC c) (hi : i < l.length) (hl : l.length ≤ 1048576) {r : List Int} :
  ∀ (d n : Nat) (out : List Int), (if c.f0 = 2 then c.f3.toNat else 1) - n = d → 1 ≤ n → n ≤ (if c.f0 = 2 then c.f3.toNat else 1) → out.length ≤ 1048576 + n →
   Evt (fun k => r11_Made.c4 k l most ((i + 1 : Nat) : Int) (out ++ List.replicate d 3)) r → Evt (fun k => r11_Made.c23 k l most (i : Int) (n : Int) out c.f0 c.f3) r := by
 have hr := hc.range
 intro d
 induction d with
 | zero =>
  intro n out hd h1 hn ho h
  refine Evt.step (f := fun k => r11_Made.c4 k l most ((i + 1 : Nat) : Int) out) (fun k => ?_) (by simpa using h)
  rw [r11_Made.c23]
  by_cases h2 : c.f0 = 2
  ·rw [if_pos h2] at hd hn
   rw [if_pos (by simpa using h2), if_neg (by simp; omega), i64w (by omega) (by omega)]; rfl
  ·rw [if_neg (by simpa using h2), i64w (by omega) (by omega)]; rfl
 | succ d ih =>
  intro n out hd h1 hn ho h
  have h2 : c.f0 = 2 := by
   by_cases h2 : c.f0 = 2
   ·exact h2
   ·rw [if_neg h2] at hd; omega
  have hd' := hd
  have hn' := hn
  rw [if_pos h2] at hd' hn'
  refine Evt.step (f := fun k => r11_Made.c23 k l most (i : Int) ((n + 1 : Nat) : Int) (out ++ [3]) c.f0 c.f3) (fun k => ?_) (ih (n + 1) (out ++ [3]) (by omega) (by omega) (by rw [if_pos h2]; omega) (by simp; omega) ?_)
  ·rw [r11_Made.c23, if_pos (by simpa using h2), if_pos (by simp; omega), if_pos (by rw [List.length_singleton]; exact big_le2 (by omega)), i64w (by omega) (by omega)]; rfl
  ·rw [List.append_assoc]
   exact h
theorem made_lay (l : List Int) (most : Int) (i : Nat) (c : Chk) (hc : OkC c) (hi : i < l.length) (hl : l.length ≤ 1048576) (out : List Int) (ho : out.length ≤ 1048576) {r : List Int}
  (h : Evt (fun k => r11_Made.c4 k l most ((i + 1 : Nat) : Int) (out ++ (expand c).map encC)) r) :
  Evt (fun k => r11_Made.c18 k l most (i : Int) out c.f0 c.f1 c.f2 c.f3 c.f4) r := by
 refine Evt.step (f := fun k => (r10_Encode.f k c.f0 c.f1 c.f2 c.f3 c.f4).bind fun y1 => if out.length + [y1.fst].length ≤ big then r11_Made.c23 k l most (i : Int) 1 (out ++ [y1.fst]) c.f0 c.f3 else none) (fun k => by rw [r11_Made.c18]) ?_
 refine Evt.bind (Evt.at 21 fun k => encode_eq k hc) ?_
 refine Evt.congr (f := fun k => r11_Made.c23 k l most (i : Int) ((1 : Nat) : Int) (out ++ [encC c]) c.f0 c.f3) ?_ (fun k => by rw [if_pos (by rw [List.length_singleton]; exact big_le2 (by omega))]; rfl)
 have hh : 1 ≤ (if c.f0 = 2 then c.f3.toNat else 1) := by
  split
  ·have := hc.huge (by assumption); omega
  ·omega
 refine made_tails l most i c hc hi hl _ 1 (out ++ [encC c]) rfl (by omega) hh (by simp; omega) ?_
 rw [expand_enc] at h
 have e : (if c.f0 = 2 then c.f3.toNat else 1) - 1 = (if c.f0 = 2 then c.f3.toNat - 1 else 0) := by split <;> omega
 rw [e, List.append_assoc]
 exact h
def roomC (c : Chk) (n : Nat) (most : Int) : Chk := if (n : Int) + max 1 c.f3 > most ∧ c.f0 = 2 then freeC else c
theorem made_room (l : List Int) (most : Int) (i : Nat) (c : Chk) (hc : OkC c) (hi : i < l.length) (hl : l.length ≤ 1048576) (out : List Int) (ho : out.length ≤ 1048576) {r : List Int}
  (h : Evt (fun k => r11_Made.c4 k l most ((i + 1 : Nat) : Int) (out ++ (expand (roomC c out.length most)).map encC)) r) :
  Evt (fun k => r11_Made.c10 k l most (i : Int) out c.f0 c.f1 c.f2 c.f3 c.f4) r := by
 have hr := hc.range
 have e : IntKind.i64.wrap ((out.length : Int) + (mx 1 c.f3)) = (out.length : Int) + max 1 c.f3 := by
  have : mx 1 c.f3 = max 1 c.f3 := by unfold mx; split <;> omega
  rw [this, i64w (by omega) (by omega)]
 by_cases h1 : (out.length : Int) + max 1 c.f3 > most
 ·by_cases h2 : c.f0 = 2
  ·refine Evt.step (fun k => by rw [r11_Made.c10, e, if_pos (decide_eq_true h1), if_pos (by simpa using h2)]) ?_
   rw [roomC, if_pos ⟨h1, h2⟩] at h
   exact made_lay l most i freeC OkC_free hi hl out ho h
  ·refine Evt.step (fun k => by rw [r11_Made.c10, e, if_pos (decide_eq_true h1), if_neg (by simpa using h2)]) ?_
   rw [roomC, if_neg (fun h => h2 h.2)] at h
   exact made_lay l most i c hc hi hl out ho h
 ·refine Evt.step (fun k => by rw [r11_Made.c10, e, if_neg (by simpa using h1)]) ?_
  rw [roomC, if_neg (fun h => h1 h.1)] at h
  exact made_lay l most i c hc hi hl out ho h
theorem roomC_len {c : Chk} (hc : OkC c) (n : Nat) (most : Int) (h : (n : Int) < most) : ((n + (expand (roomC c n most)).length : Nat) : Int) ≤ most := by
 have hr := hc.range
 unfold roomC
 split
 ·simp [expand, freeC]; omega
 ·rename_i hx
  by_cases h2 : c.f0 = 2
  ·have : ¬ ((n : Int) + max 1 c.f3 > most) := fun h => hx ⟨h, h2⟩
   have := hc.huge h2
   simp [expand, h2]; omega
  ·simp [expand, h2]; omega
theorem roomC_ok {c : Chk} (hc : OkC c) (h3 : c.f0 ≠ 3) (n : Nat) (most : Int) : OkC (roomC c n most) ∧ (roomC c n most).f0 ≠ 3 := by
 unfold roomC
 split
 ·exact ⟨OkC_free, by decide⟩
 ·exact ⟨hc, h3⟩
def numC (n : Nat) : Chk :=
 if n % 6 = 1 ∨ n % 6 = 2 then ⟨1, ((n / 8 % 3 : Nat) : Int), 0, 0, ((n / 32 % (if n / 8 % 3 = 0 then 256 else if n / 8 % 3 = 1 then 16 else 4) : Nat) : Int)⟩
 else if n % 6 = 3 then ⟨2, 0, 0, ((1 + n / 8 % 4 : Nat) : Int), 0⟩
 else if n % 6 = 4 then ⟨1, ((n / 8 % 3 : Nat) : Int), 0, 0, 0⟩
 else if n % 6 = 5 then ⟨4, 0, ((n / 8 % 3 : Nat) : Int), ((n / 32 % 8 : Nat) : Int), 0⟩
 else freeC
theorem numC_ok (n : Nat) : OkC (numC n) ∧ (numC n).f0 ≠ 3 := by
 unfold numC OkC
 rw [okC_iff]
 split
 ·rcases (show n / 8 % 3 = 0 ∨ n / 8 % 3 = 1 ∨ n / 8 % 3 = 2 by omega) with e | e | e <;> rw [e] <;> simp <;> omega
 ·split
  ·simp; omega
  ·split
   ·simp; omega
   ·split
    ·simp; omega
    ·exact ⟨⟨by simp [freeC], by simp [freeC]⟩, by simp [freeC]⟩
theorem td8 (n : Nat) : Int.tdiv (n : Int) 8 = ((n / 8 : Nat) : Int) := by rw [Int.tdiv_eq_ediv_of_nonneg (by omega)]; omega
theorem td32 (n : Nat) : Int.tdiv (n : Int) 32 = ((n / 32 : Nat) : Int) := by rw [Int.tdiv_eq_ediv_of_nonneg (by omega)]; omega
theorem tm3 (n : Nat) : Int.tmod (n : Int) 3 = ((n % 3 : Nat) : Int) := by rw [Int.tmod_eq_emod_of_nonneg (by omega)]; omega
theorem tm4 (n : Nat) : Int.tmod (n : Int) 4 = ((n % 4 : Nat) : Int) := by rw [Int.tmod_eq_emod_of_nonneg (by omega)]; omega
theorem tm8 (n : Nat) : Int.tmod (n : Int) 8 = ((n % 8 : Nat) : Int) := by rw [Int.tmod_eq_emod_of_nonneg (by omega)]; omega
theorem tm6 (n : Nat) : Int.tmod (n : Int) 6 = ((n % 6 : Nat) : Int) := by rw [Int.tmod_eq_emod_of_nonneg (by omega)]; omega
theorem made_num (l : List Int) (most : Int) (i n : Nat) (hn2 : n ≤ 65535) (out : List Int) {r : List Int} (hj3 : Evt (fun k => r11_Made.c10 k l most (i : Int) out (numC n).f0 (numC n).f1 (numC n).f2 (numC n).f3 (numC n).f4) r) (b : Bool) (hb : b = decide (n % 6 = 1 ∨ n % 6 = 2)) :
  Evt (fun k => r11_Made.c12 k l most (i : Int) (n : Int) ((n % 6 : Nat) : Int) b out 0 0 0 0 0) r := by
 subst hb
 have w8 : IntKind.i64.wrap ((n / 8 : Nat) : Int) = ((n / 8 : Nat) : Int) := i64w (by omega) (by omega)
 have w32 : IntKind.i64.wrap ((n / 32 : Nat) : Int) = ((n / 32 : Nat) : Int) := i64w (by omega) (by omega)
 have hc3 : n / 8 % 3 = 0 ∨ n / 8 % 3 = 1 ∨ n / 8 % 3 = 2 := by omega
 by_cases h12 : n % 6 = 1 ∨ n % 6 = 2
 ·rw [decide_eq_true h12]
  have hnum : numC n = ⟨1, ((n / 8 % 3 : Nat) : Int), 0, 0, ((n / 32 % (if n / 8 % 3 = 0 then 256 else if n / 8 % 3 = 1 then 16 else 4) : Nat) : Int)⟩ := by unfold numC; rw [if_pos h12]
  rw [hnum] at hj3
  refine Evt.step (fun k => by rw [r11_Made.c12, if_pos rfl, td8, w8, tm3]) ?_
  refine Evt.bind (many_eqE _ (by omega)) ?_
  have hs : IntKind.u64.wrap (1 * 2 ^ min (H.manyW ((n / 8 % 3 : Nat) : Int)).toNat 64) = (((if n / 8 % 3 = 0 then 256 else if n / 8 % 3 = 1 then 16 else 4) : Nat) : Int) ∧ 0 ≤ H.manyW ((n / 8 % 3 : Nat) : Int) := by
   rcases hc3 with e | e | e <;> rw [e] <;> exact ⟨by decide +kernel, by decide⟩
  have hp : 0 < (if n / 8 % 3 = 0 then 256 else if n / 8 % 3 = 1 then 16 else 4) := by split <;> (try split) <;> omega
  have e2 : Int.tmod (IntKind.u64.wrap (IntKind.i64.wrap (Int.tdiv (n : Int) 32))) (((if n / 8 % 3 = 0 then 256 else if n / 8 % 3 = 1 then 16 else 4) : Nat) : Int) = ((n / 32 % (if n / 8 % 3 = 0 then 256 else if n / 8 % 3 = 1 then 16 else 4) : Nat) : Int) := by
   rw [td32, w32, u64w (by omega) (by omega), Int.tmod_eq_emod_of_nonneg (by omega)]; norm_cast
  refine Evt.congr hj3 (fun k => ?_)
  rw [if_neg (by omega), hs.1, if_neg (by omega), e2]
 ·rw [decide_eq_false h12]
  by_cases h6 : n % 6 = 3
  ·have hnum : numC n = ⟨2, 0, 0, ((1 + n / 8 % 4 : Nat) : Int), 0⟩ := by unfold numC; rw [if_neg h12, if_pos h6]
   rw [hnum] at hj3
   refine Evt.step (fun k => ?_) hj3
   rw [r11_Made.c12, if_neg (by decide), if_pos (by rw [h6]; decide), td8, w8, tm4, i64w (x := 1 + ((n / 8 % 4 : Nat) : Int)) (by omega) (by omega), show 1 + ((n / 8 % 4 : Nat) : Int) = ((1 + n / 8 % 4 : Nat) : Int) by omega]
  ·have e3 : ¬ ((((n % 6 : Nat) : Int) == 3) = true) := by simp; omega
   by_cases h7 : n % 6 = 4
   ·have hnum : numC n = ⟨1, ((n / 8 % 3 : Nat) : Int), 0, 0, 0⟩ := by unfold numC; rw [if_neg h12, if_neg h6, if_pos h7]
    rw [hnum] at hj3
    refine Evt.step (fun k => ?_) hj3
    rw [r11_Made.c12, if_neg (by decide), if_neg e3, if_pos (by rw [h7]; decide), td8, w8, tm3]
   ·have e4 : ¬ ((((n % 6 : Nat) : Int) == 4) = true) := by simp; omega
    by_cases h8 : n % 6 = 5
    ·have hnum : numC n = ⟨4, 0, ((n / 8 % 3 : Nat) : Int), ((n / 32 % 8 : Nat) : Int), 0⟩ := by unfold numC; rw [if_neg h12, if_neg h6, if_neg h7, if_pos h8]
     rw [hnum] at hj3
     refine Evt.step (fun k => ?_) hj3
     rw [r11_Made.c12, if_neg (by decide), if_neg e3, if_neg e4, if_pos (by rw [h8]; decide), td8, w8, tm3, td32, w32, tm8]
    ·have e5 : ¬ ((((n % 6 : Nat) : Int) == 5) = true) := by simp; omega
     have hnum : numC n = freeC := by unfold numC; rw [if_neg h12, if_neg h6, if_neg h7, if_neg h8]
     rw [hnum] at hj3
     refine Evt.step (fun k => ?_) hj3
     rw [r11_Made.c12, if_neg (by decide), if_neg e3, if_neg e4, if_neg e5]
     rfl
theorem made_l (Q : Chk → Prop) (q0 : Q freeC) (q3 : Q tailC) (l : List Int) (hq : ∀ x ∈ l, Q (numC x.toNat)) (most : Int) (hm : 0 ≤ most ∧ most ≤ 1000) (hl : l.length ≤ 1048576) (hu : ∀ x ∈ l, 0 ≤ x ∧ x ≤ 65535) : ∀ (d i : Nat) (cs : List Chk), l.length - i = d → i ≤ l.length → Tabl cs → (cs.length : Int) ≤ most → (∀ c ∈ cs, Q c) →
  ∃ ds, Tabl ds ∧ (ds.length : Int) ≤ most ∧ (∀ c ∈ ds, Q c) ∧ Evt (fun k => r11_Made.c4 k l most (i : Int) (cs.map encC)) (ds.map encC) := by
 intro d
 induction d with
 | zero =>
  intro i cs hd hi ht hcs hQ
  obtain rfl : i = l.length := by omega
  exact ⟨cs, ht, hcs, hQ, Evt.step (f := fun _ => some (cs.map encC)) (fun k => by rw [r11_Made.c4, if_neg (by simp)]) (Evt.some _)⟩
 | succ d ih =>
  intro i cs hd hi ht hcs hQ
  have hlt : i < l.length := by omega
  by_cases hfull : (cs.length : Int) < most
  ·obtain ⟨n, hn⟩ : ∃ n : Nat, l[i] = (n : Int) := ⟨l[i].toNat, by have := hu _ (List.getElem_mem hlt); omega⟩
   have hn2 := hu _ (List.getElem_mem hlt)
   rw [hn] at hn2
   obtain ⟨hok, h3⟩ := numC_ok n
   obtain ⟨rok, r3⟩ := roomC_ok hok h3 cs.length most
   have hlen := roomC_len hok cs.length most hfull
   have hqn : Q (numC n) := by have := hq _ (List.getElem_mem hlt); rwa [hn, Int.toNat_natCast] at this
   obtain ⟨ds, hds, hdl, hdq, hev⟩ := ih (i + 1) (cs ++ expand (roomC (numC n) cs.length most)) (by omega) (by omega) (Tabl.snoc _ _ ht rok r3) (by rw [List.length_append]; exact hlen) (fun c hc => by
    rcases List.mem_append.mp hc with hc | hc
    ·exact hQ c hc
    ·rcases List.mem_cons.mp hc with rfl | hc
     ·unfold roomC; split
      ·exact q0
      ·exact hqn
     ·rw [(List.mem_replicate.mp hc).2]; exact q3)
   refine ⟨ds, hds, hdl, hdq, ?_⟩
   rw [List.map_append] at hev
   have hj3 := made_room l most i (numC n) hok hlt hl (cs.map encC) (by rw [List.length_map]; omega) (by rw [List.length_map]; exact hev)
   have hw : IntKind.i64.wrap (n : Int) = n := i64w (by omega) (by omega)
   by_cases h1 : n % 6 = 1
   ·refine Evt.step (fun k => ?_) (made_num l most i n (by omega) (cs.map encC) hj3 true (by simp [h1]))
    rw [r11_Made.c4, if_pos (decide_eq_true (by omega)), if_pos (decide_eq_true (by rw [List.length_map]; exact hfull)), if_pos (by omega), if_pos (by omega), gd l i 0 hlt, hn, hw, tm6, if_pos (by rw [h1]; decide), show ((((n % 6 : Nat) : Int) == 1) = true) by rw [h1]; decide]
   ·refine Evt.step (fun k => ?_) (made_num l most i n (by omega) (cs.map encC) hj3 (((n % 6 : Nat) : Int) == 2) (by rw [Bool.eq_iff_iff]; simp [h1]; omega))
    rw [r11_Made.c4, if_pos (decide_eq_true (by omega)), if_pos (decide_eq_true (by rw [List.length_map]; exact hfull)), if_pos (by omega), if_pos (by omega), gd l i 0 hlt, hn, hw, tm6, if_neg (by simp; omega)]
  ·exact ⟨cs, ht, hcs, hQ, Evt.step (f := fun _ => some (cs.map encC)) (fun k => by rw [r11_Made.c4, if_pos (decide_eq_true (by omega)), if_neg (by rw [List.length_map]; simpa using hfull)]) (Evt.some _)⟩
theorem made_eq (Q : Chk → Prop) (q0 : Q freeC) (q3 : Q tailC) (l : List Int) (hq : ∀ x ∈ l, Q (numC x.toNat)) (most : Int) (hm : 0 ≤ most ∧ most ≤ 1000) (hl : l.length ≤ 1048576) (hu : ∀ x ∈ l, 0 ≤ x ∧ x ≤ 65535) : ∃ ds, Tabl ds ∧ (ds.length : Int) ≤ most ∧ (∀ c ∈ ds, Q c) ∧ Evt (fun k => r11_Made.f k l most) (ds.map encC) :=
 made_l Q q0 q3 l hq most hm hl hu l.length 0 [] (by omega) (by omega) .nil (by simp; omega) (fun c hc => by cases hc)
end Go.Proofs.YtbbpcbjgekencaaGreatDoor.PS
end
section
set_option linter.unusedVariables false
set_option linter.unusedSimpArgs false
set_option linter.unusedVariables false
set_option linter.unusedSimpArgs false
namespace Go.Proofs.YtbbpcbjgekencaaGreatDoor.PS
open Go Go.Proofs.YtbbpcbjgekencaaGreatDoor.Q Go.Proofs.YtbbpcbjgekencaaGreatDoor.FT Go.Proofs.YtbbpcbjgekencaaGreatDoor.Ev
theorem U64_set {x : List Int} (hx : U64 x) (i : Nat) (v : Int) (hv : Wd v) : U64 (x.set i v) := by
 intro y hy
 rcases List.mem_or_eq_of_mem_set hy with h | rfl
 ·exact hx y h
 ·exact hv
def over (m : List Int) (a : Nat) (l : List Int) : List Int := m.take a ++ (l ++ m.drop (a + l.length))
theorem over_len (m : List Int) (a : Nat) (l : List Int) (h : a + l.length ≤ m.length) : (over m a l).length = m.length := by
 unfold over
 simp only [List.length_append, List.length_take, List.length_drop]
 omega
theorem over_U64 {m : List Int} {l : List Int} (a : Nat) (hm : U64 m) (hl : U64 l) : U64 (over m a l) := by
 intro y hy
 unfold over at hy
 rcases List.mem_append.mp hy with h | h
 ·exact hm y (List.mem_of_mem_take h)
 ·rcases List.mem_append.mp h with h | h
  ·exact hl y h
  ·exact hm y (List.mem_of_mem_drop h)
theorem put_l (a : Nat) (l : List Int) (n : Nat) (hn : n ≤ 1048576) (hfit : a + l.length ≤ n) : ∀ (d i : Nat) (m : List Int), l.length - i = d → i ≤ l.length → m.length = n →
  Evt (fun k => r15_put.c1 k (a : Int) l (i : Int) m) (over m (a + i) (l.drop i)) := by
 intro d
 induction d with
 | zero =>
  intro i m hd hi hm
  obtain rfl : i = l.length := by omega
  have e : over m (a + l.length) (l.drop l.length) = m := by unfold over; simp
  rw [e]
  exact Evt.step (f := fun _ => some m) (fun k => by rw [r15_put.c1, if_neg (by simp)]) (Evt.some _)
 | succ d ih =>
  intro i m hd hi hm
  have hlt : i < l.length := by omega
  have hn2 := ih (i + 1) (m.set (a + i) l[i]) (by omega) (by omega) (by simpa using hm)
  refine Evt.step (f := fun k => r15_put.c1 k (a : Int) l ((i + 1 : Nat) : Int) (m.set (a + i) l[i])) (fun k => ?_) (hn2.eq ?_)
  ·have e : IntKind.i64.wrap ((a : Int) + (i : Int)) = ((a + i : Nat) : Int) := i64w (by omega) (by omega)
   rw [r15_put.c1, if_pos (decide_eq_true (by omega)), e, if_pos (decide_eq_true (by omega)), if_pos (by omega), if_pos (by omega), if_pos (by omega), if_pos (by omega), if_pos (by omega), gd l i 0 hlt, i64w (by omega) (by omega)]
   rfl
  ·rw [List.drop_eq_getElem_cons hlt]
   unfold over
   rw [show a + (i + 1) = a + i + 1 by omega]
   have h1 : (m.set (a + i) l[i]).take (a + i + 1) = m.take (a + i) ++ [l[i]] := by
    rw [List.take_succ_eq_append_getElem (by rw [List.length_set]; omega), List.take_set_of_le (by omega), List.getElem_set_self]
   have h2 : (m.set (a + i) l[i]).drop (a + i + 1 + (l.drop (i + 1)).length) = m.drop (a + i + (l[i] :: l.drop (i + 1)).length) := by
    rw [List.drop_set_of_lt (by omega)]
    congr 1
    rw [List.length_cons]
    omega
   rw [h1, h2, List.append_assoc]
   rfl
theorem put_eq (a : Nat) (l m : List Int) (hn : m.length ≤ 1048576) (hfit : a + l.length ≤ m.length) : Evt (fun k => r15_put.f k (a : Int) l m) (over m a l) :=
 put_l a l m.length hn hfit l.length 0 m (by omega) (by omega) rfl
theorem over_at (m : List Int) (a : Nat) (l : List Int) (h : a + l.length ≤ m.length) (j : Nat) : (over m a l)[j]? = if a ≤ j ∧ j < a + l.length then l[j - a]? else m[j]? := by
 unfold over
 by_cases h1 : j < a
 ·rw [List.getElem?_append_left (by rw [List.length_take]; omega), List.getElem?_take, if_pos h1, if_neg (by omega)]
 ·have e : (m.take a).length = a := by rw [List.length_take]; omega
  rw [List.getElem?_append_right (by omega), e]
  by_cases h2 : j < a + l.length
  ·rw [List.getElem?_append_left (by omega), if_pos ⟨by omega, h2⟩]
  ·rw [List.getElem?_append_right (by omega), List.getElem?_drop, if_neg (by omega)]
   congr 1
   omega
theorem make_end (w l : Int) (m : List Int) : Evt (fun k => r15_Make.c17 k 0 [] [] w l m) m := by
 refine Evt.step (f := fun k => r15_Make.c41 k 0 [] m) (fun k => by rw [r15_Make.c17, if_neg (by simp)]) ?_
 refine Evt.step (f := fun k => r15_Make.c45 k m) (fun k => by rw [r15_Make.c41, if_neg (by simp), if_neg (by simp)]) ?_
 exact Evt.step (f := fun _ => some m) (fun k => by rw [r15_Make.c45]) (Evt.some _)
theorem fill_l (w l : Int) (F : List Int) (hF : U64 F) (hFl : F.length ≤ 1048576) : ∀ (d i : Nat) (m : List Int), m.length - i = d → i ≤ m.length → m.length ≤ 1048576 → U64 m →
  ∃ r, Evt (fun k => r15_Make.c11 k (i : Int) F [] [] w l m) r ∧ r.length = m.length ∧ U64 r ∧ ∀ j, j < i → r[j]? = m[j]? := by
 intro d
 induction d with
 | zero =>
  intro i m hd hi hm hU
  refine ⟨m, Evt.step (fun k => ?_) (make_end w l m), rfl, hU, fun j _ => rfl⟩
  rw [r15_Make.c11, if_neg (by simp; omega)]
 | succ d ih =>
  intro i m hd hi hm hU
  have hlt : i < m.length := by omega
  by_cases h0 : F.length = 0
  ·refine ⟨m, Evt.step (fun k => ?_) (make_end w l m), rfl, hU, fun j _ => rfl⟩
   rw [r15_Make.c11, if_pos (decide_eq_true (by omega)), if_neg (by rw [decide_eq_true_eq]; omega)]
  ·have hp : i % F.length < F.length := Nat.mod_lt _ (by omega)
   have ht : Int.tmod (i : Int) (F.length : Int) = ((i % F.length : Nat) : Int) := by rw [Int.tmod_eq_emod_of_nonneg (by omega)]; norm_cast
   obtain ⟨r, hr, hl, hU2, hj⟩ := ih (i + 1) (m.set i F[i % F.length]) (by rw [List.length_set]; omega) (by rw [List.length_set]; omega) (by rw [List.length_set]; omega) (U64_set hU _ _ (hF _ (List.getElem_mem hp)))
   refine ⟨r, Evt.step (fun k => ?_) hr, by rw [hl, List.length_set], hU2, fun j hji => ?_⟩
   ·rw [r15_Make.c11, if_pos (decide_eq_true (by omega)), if_pos (decide_eq_true (by omega)), if_neg (by omega), ht, if_pos (by omega), if_pos (by omega), if_pos (by omega), if_pos (by omega), if_pos (by omega), gd F _ 0 hp, i64w (by omega) (by omega)]
    rfl
   ·rw [hj j (by omega), List.getElem?_set_ne (by omega)]
structure Pool0 (x : List Int) (l : Int) (ds : List Chk) (root epoch : Int) : Prop where
 geo : Geo (x.length : Int) l
 u : U64 x
 head : x.take 8 = H.headL (x.length : Int) l (chunksG (x.length : Int) l)
 root : wd x 8 = root
 epoch : wd x 9 = epoch
 marks : ∀ i : Nat, (i : Int) < l → wd x (10 + (i : Int)) = 0
 tab : tabL x l = ds.map encC
 ds : Tabl ds
theorem headL_U64 (w l n : Int) (hw : Wd w) (hl : Wd l) (hn : Wd n) : U64 (H.headL w l n) := by
 intro x hx
 have h7 := sealL_lt [6076272092419149644, 1, w, l, n, 0, 0]
 unfold H.headL H.l7 at hx
 simp only [List.cons_append, List.nil_append, List.mem_cons, List.not_mem_nil, or_false] at hx
 rcases hx with rfl | rfl | rfl | rfl | rfl | rfl | rfl | rfl
 ·exact ⟨by decide, by decide⟩
 ·exact ⟨by decide, by decide⟩
 ·exact hw
 ·exact hl
 ·exact hn
 ·exact ⟨by decide, by decide⟩
 ·exact ⟨by decide, by decide⟩
 ·exact ⟨h7.1, by omega⟩
theorem wd_get (x : List Int) (i : Nat) : wd x (i : Int) = (x[i]?).getD 0 := by
 unfold wd
 rw [Int.toNat_natCast, List.getD_eq_getElem?_getD]
def geoL (a : Int) : Int := 1 + a % 3
def geoN (b : Int) : Int := 1 + b % 8
def geoW (a b : Int) : Int := 10 + 73 * geoL a + 33 * geoN b
theorem geoW_chunks (a b : Int) : chunksG (geoW a b) (geoL a) = geoN b := by
 unfold chunksG geoW geoL geoN
 rw [if_pos (by omega)]
 omega
theorem geometry_eq (k : Nat) (a b : Int) (ha : 0 ≤ a) (hb : 0 ≤ b) (t f : List Int) (i4 : List S94) (r e : Int) (sp : List S35) : r15_Geometry.f k a b t f i4 r e sp = some (geoW a b, geoL a) := by
 unfold r15_Geometry.f r05_Small.f
 rw [Int.tmod_eq_emod_of_nonneg ha, Int.tmod_eq_emod_of_nonneg hb, Int.tmod_eq_emod_of_nonneg (by omega), Int.tmod_eq_emod_of_nonneg (by omega)]
 rw [i64w (x := a % 3 % 64) (by omega) (by omega), i64w (x := b % 8 % 200) (by omega) (by omega), i64w (x := Int.tmod 0 33) (by decide) (by decide)]
 rw [i64w (x := 1 + a % 3 % 64) (by omega) (by omega), i64w (x := 1 + b % 8 % 200) (by omega) (by omega), i64w (x := 73 * (1 + a % 3 % 64)) (by omega) (by omega), i64w (x := 33 * (1 + b % 8 % 200)) (by omega) (by omega)]
 rw [i64w (x := 10 + 73 * (1 + a % 3 % 64)) (by omega) (by omega), i64w (x := 10 + 73 * (1 + a % 3 % 64) + 33 * (1 + b % 8 % 200)) (by omega) (by omega)]
 rw [show Int.tmod 0 33 = 0 by decide, i64w (by omega) (by omega), Option.bind_some]
 unfold geoW geoL geoN
 congr 2
 ·omega
 ·omega
theorem make_eq (Q : Chk → Prop) (q0 : Q freeC) (q3 : Q tailC) (a b : Int) (ha : 0 ≤ a) (hb : 0 ≤ b) (t F : List Int) (hq : ∀ x ∈ t, Q (numC x.toNat)) (ht : ∀ x ∈ t, 0 ≤ x ∧ x ≤ 65535) (htl : t.length ≤ 1048576) (hF : U64 F) (hFl : F.length ≤ 1048576) (root epoch : Int) (hr : Wd root) (he : Wd epoch) :
  ∃ x ds, Evt (fun k => r15_Make.f k a b t F [] root epoch []) x ∧ Pool0 x (geoL a) ds root epoch ∧ (x.length : Int) = geoW a b ∧ ∀ c ∈ ds, Q c := by
 have hch := geoW_chunks a b
 have hL : 1 ≤ geoL a ∧ geoL a ≤ 3 := by unfold geoL; omega
 have hNN : 1 ≤ geoN b ∧ geoN b ≤ 8 := by unfold geoN; omega
 have hW : geoW a b = 10 + 73 * geoL a + 33 * geoN b := rfl
 have hg : Geo (geoW a b) (geoL a) := by unfold Geo; omega
 obtain ⟨W, hWn⟩ : ∃ W : Nat, geoW a b = (W : Int) := ⟨(geoW a b).toNat, by omega⟩
 obtain ⟨ds, hds, hdl, hdq, hmade⟩ := made_eq Q q0 q3 t hq (geoN b) (by omega) htl ht
 have hhl : (H.headL (geoW a b) (geoL a) (geoN b)).length = 8 := rfl
 have hhU : U64 (H.headL (geoW a b) (geoL a) (geoN b)) := headL_U64 _ _ _ ⟨by omega, by omega⟩ ⟨by omega, by omega⟩ ⟨by omega, by omega⟩
 generalize hHd : H.headL (geoW a b) (geoL a) (geoN b) = Hd at hhl hhU
 have hrep : (List.replicate W (0 : Int)).length = W := List.length_replicate
 have hrepU : U64 (List.replicate W (0 : Int)) := fun y hy => by rw [List.eq_of_mem_replicate hy]; exact ⟨by decide, by decide⟩
 have h2l := over_len (List.replicate W (0 : Int)) 0 Hd (by omega)
 have h2U := over_U64 0 hrepU hhU
 have h2a := over_at (List.replicate W (0 : Int)) 0 Hd (by omega)
 have hput1 := put_eq 0 Hd (List.replicate W (0 : Int)) (by omega) (by omega)
 generalize over (List.replicate W (0 : Int)) 0 Hd = y2 at h2l h2U h2a hput1
 obtain ⟨T, hT⟩ : ∃ T : Nat, tabAt (geoL a) = (T : Int) := ⟨(tabAt (geoL a)).toNat, by unfold tabAt; omega⟩
 have hT2 : (T : Int) = 10 + 73 * geoL a := by rw [← hT]; rfl
 have h3U : U64 ((y2.set 8 root).set 9 epoch) := U64_set (U64_set h2U _ _ hr) _ _ he
 have h3l : ((y2.set 8 root).set 9 epoch).length = W := by simp; omega
 have h3a : ∀ j, ((y2.set 8 root).set 9 epoch)[j]? = if j = 9 then some epoch else if j = 8 then some root else y2[j]? := fun j => by
  rw [List.getElem?_set]
  by_cases h9 : 9 = j
  ·subst h9; rw [if_pos rfl, if_pos rfl, if_pos (by simp; omega)]
  ·rw [if_neg h9, if_neg (fun h => h9 h.symm), List.getElem?_set]
   by_cases h8 : 8 = j
   ·subst h8; rw [if_pos rfl, if_pos rfl, if_pos (by omega)]
   ·rw [if_neg h8, if_neg (fun h => h8 h.symm)]
 have htU := U64_enc ds hds.ok
 have htl2 : (ds.map encC).length = ds.length := List.length_map ..
 have h5l := over_len ((y2.set 8 root).set 9 epoch) T (ds.map encC) (by omega)
 have h5U := over_U64 T h3U htU
 have h5a := over_at ((y2.set 8 root).set 9 epoch) T (ds.map encC) (by omega)
 have hput2 := put_eq T (ds.map encC) ((y2.set 8 root).set 9 epoch) (by omega) (by omega)
 generalize over ((y2.set 8 root).set 9 epoch) T (ds.map encC) = y5 at h5l h5U h5a hput2
 obtain ⟨x, hx, hxl, hxU, hxa⟩ := fill_l (geoW a b) (geoL a) F hF hFl _ (T + (geoN b).toNat) y5 rfl (by omega) (by omega) h5U
 have hlen : (x.length : Int) = geoW a b := by omega
 have hat : ∀ j, j < T + (geoN b).toNat → x[j]? = if T ≤ j ∧ j < T + ds.length then (ds.map encC)[j - T]? else if j = 9 then some epoch else if j = 8 then some root else if j < 8 then Hd[j]? else some 0 := fun j hj => by
  rw [hxa j hj, h5a, htl2, h3a, h2a]
  split
  ·rfl
  ·split
   ·rfl
   ·split
    ·rfl
    ·by_cases h8 : j < 8
     ·rw [if_pos h8, if_pos ⟨Nat.zero_le _, by omega⟩]; rfl
     ·rw [if_neg h8, if_neg (by omega), List.getElem?_replicate, if_pos (by omega)]
 refine ⟨x, ds ++ List.replicate ((geoN b).toNat - ds.length) freeC, ?_, ⟨by rw [hlen]; exact hg, hxU, ?_, ?_, ?_, ?_, ?_, hds.free _⟩, hlen, fun c hc => (List.mem_append.mp hc).elim (hdq c) fun h => (List.mem_replicate.mp h).2 ▸ q0⟩
 ·unfold r15_Make.f
  refine Evt.bind (Evt.of fun k => geometry_eq k a b ha hb t F [] root epoch []) ?_
  refine Evt.congr (f := fun k => (r06_Encode.f k (geoW a b) (geoL a)).bind fun y1 => (r15_put.f k 0 y1.snd (List.replicate W (0 : Int))).bind fun y2 => if 8 < (y2.length : Int) then if Int.toNat 8 < y2.length then if 9 < ((y2.set (Int.toNat 8) root).length : Int) then if Int.toNat 9 < (y2.set (Int.toNat 8) root).length then (r05_Table.f k (geoW a b) (geoL a)).bind fun y3 => (r11_Made.f k t y3.snd).bind fun y4 => (r15_put.f k y3.fst y4 ((y2.set (Int.toNat 8) root).set (Int.toNat 9) epoch)).bind fun y5 => r15_Make.c11 k (IntKind.i64.wrap (y3.fst + y3.snd)) F [] [] (geoW a b) (geoL a) y5 else none else none else none else none) ?_ (fun k => by
   dsimp only
   rw [hWn, if_pos (by omega), if_pos (by omega), if_pos (by omega)]
   rfl)
  refine Evt.bind (refEnc_yes _ _ hg (by omega)) ?_
  rw [hch, hHd]
  refine Evt.bind hput1 ?_
  refine Evt.congr (f := fun k => (r05_Table.f k (geoW a b) (geoL a)).bind fun y3 => (r11_Made.f k t y3.snd).bind fun y4 => (r15_put.f k y3.fst y4 ((y2.set 8 root).set 9 epoch)).bind fun y5 => r15_Make.c11 k (IntKind.i64.wrap (y3.fst + y3.snd)) F [] [] (geoW a b) (geoL a) y5) ?_ (fun k => by
   rw [if_pos (by omega), if_pos (by show 8 < y2.length; omega), if_pos (by rw [List.length_set]; omega), if_pos (by rw [List.length_set]; show 9 < y2.length; omega)]
   rfl)
  refine Evt.bind (Evt.at 2000 fun k => refTable_eq k _ _ hg) ?_
  rw [hch]
  refine Evt.bind hmade ?_
  rw [hT]
  refine Evt.bind hput2 ?_
  refine Evt.congr hx (fun k => ?_)
  dsimp only
  rw [i64w (by omega) (by omega), show (T : Int) + geoN b = ((T + (geoN b).toNat : Nat) : Int) by omega]
 ·rw [hlen, hch, hHd]
  apply List.ext_getElem?
  intro j
  rw [List.getElem?_take]
  by_cases h8 : j < 8
  ·rw [if_pos h8, hat j (by omega), if_neg (by omega), if_neg (by omega), if_neg (by omega), if_pos h8]
  ·rw [if_neg h8, List.getElem?_eq_none (by omega)]
 ·rw [show (8 : Int) = ((8 : Nat) : Int) from rfl, wd_get, hat 8 (by omega), if_neg (by omega), if_neg (by omega), if_pos rfl]
  rfl
 ·rw [show (9 : Int) = ((9 : Nat) : Int) from rfl, wd_get, hat 9 (by omega), if_neg (by omega), if_pos rfl]
  rfl
 ·intro i hi
  rw [show (10 : Int) + (i : Int) = ((10 + i : Nat) : Int) by omega, wd_get, hat (10 + i) (by omega), if_neg (by omega), if_neg (by omega), if_neg (by omega), if_neg (by omega)]
  rfl
 ·unfold tabL
  rw [hlen, hch, hT, List.map_append, List.map_replicate]
  have e0 : encC freeC = 0 := by decide
  rw [e0]
  apply List.ext_getElem?
  intro j
  rw [List.getElem?_drop, List.getElem?_take]
  have hTt : ((T : Int)).toNat = T := Int.toNat_natCast T
  rw [hTt]
  by_cases hj : j < (geoN b).toNat
  ·rw [if_pos (by omega), hat (T + j) (by omega)]
   by_cases hj2 : j < ds.length
   ·rw [if_pos ⟨by omega, by omega⟩, List.getElem?_append_left (by omega), show T + j - T = j by omega]
   ·rw [if_neg (by omega), if_neg (by omega), if_neg (by omega), if_neg (by omega), List.getElem?_append_right (by omega), List.getElem?_replicate, if_pos (by omega)]
  ·rw [if_neg (by omega), List.getElem?_eq_none (by simp; omega)]
end Go.Proofs.YtbbpcbjgekencaaGreatDoor.PS
end
section
set_option linter.unusedVariables false
set_option linter.unusedSimpArgs false
set_option linter.unusedVariables false
set_option linter.unusedSimpArgs false
namespace Go.Proofs.YtbbpcbjgekencaaGreatDoor.PS
open Go Go.Proofs.YtbbpcbjgekencaaGreatDoor.Q Go.Proofs.YtbbpcbjgekencaaGreatDoor.FT Go.Proofs.YtbbpcbjgekencaaGreatDoor.Ev
def lo (b : Blk) : Int := 32 * b.f0 + b.f1 * b.f2
def hi (b : Blk) : Int := lo b + b.f2
noncomputable def blkFrom (a : Nat) (l : List Chk) : List Blk := (l.zipIdx a).flatMap fun p => H.blkOne p.2 p.1
theorem blkFrom_cons (a : Nat) (c : Chk) (l : List Chk) : blkFrom a (c :: l) = H.blkOne a c ++ blkFrom (a + 1) l := by simp [blkFrom]
theorem noOnes {c : Chk} (h : c.f4 = 0) : H.onesI c.f4 (H.manyW c.f1) = [] := by
 unfold H.onesI H.ones
 rw [List.map_eq_nil_iff, List.filter_eq_nil_iff]
 intro x hx
 rw [h]
 unfold H.bitAt
 rw [Int.zero_ediv]
 decide
theorem one_run (a : Nat) {c : Chk} (hc : OkC c) (hk : c.f0 = 1) : (∀ b ∈ H.blkOne a c, 32 * (a : Int) ≤ lo b ∧ hi b ≤ 32 * ((a + 1 : Nat) : Int)) ∧ (H.blkOne a c).Pairwise fun b d => hi b ≤ lo d := by
 have hrun := hc.run hk
 have e : H.blkOne a c = (H.onesI c.f4 (H.manyW c.f1)).map (H.mkB a c.f1) := by
  unfold H.blkOne H.huge
  rw [if_neg (by omega), List.nil_append]
 rw [e]
 obtain ⟨w, M, hw, hM, hwM⟩ : ∃ w M : Int, H.blockW c.f1 = w ∧ H.manyW c.f1 = M ∧ (w = 4 ∧ M = 8 ∨ w = 8 ∧ M = 4 ∨ w = 16 ∧ M = 2) := by
  rcases hrun.2.2 with h | h | h <;> rw [h.1]
  ·exact ⟨4, 8, by decide, by decide, by omega⟩
  ·exact ⟨8, 4, by decide, by decide, by omega⟩
  ·exact ⟨16, 2, by decide, by decide, by omega⟩
 rw [hM]
 constructor
 ·intro b hb
  rw [List.mem_map] at hb
  obtain ⟨j, hj, rfl⟩ := hb
  unfold H.onesI at hj
  rw [List.mem_map] at hj
  obtain ⟨n, hn, rfl⟩ := hj
  unfold H.ones at hn
  rw [List.mem_filter, List.mem_range] at hn
  unfold hi lo H.mkB
  rw [hw]
  show 32 * (a : Int) ≤ 32 * (a : Int) + (n : Int) * w ∧ 32 * (a : Int) + (n : Int) * w + w ≤ _
  rcases hwM with h | h | h <;> rw [h.1] <;> omega
 ·unfold H.onesI H.ones
  rw [List.map_map, List.pairwise_map]
  refine List.Pairwise.imp ?_ (List.Pairwise.filter _ List.pairwise_lt_range)
  intro i j hij
  unfold hi lo H.mkB
  rw [hw]
  show 32 * (a : Int) + (i : Int) * w + w ≤ 32 * (a : Int) + (j : Int) * w
  rcases hwM with h | h | h <;> rw [h.1] <;> omega
theorem one_huge (a : Nat) {c : Chk} (hc : OkC c) (hk : c.f0 = 2) : H.blkOne a c = [⟨(a : Int), 0, 32 * c.f3⟩] := by
 have h := hc.huge hk
 unfold H.blkOne H.huge
 rw [if_pos hk, noOnes h.2.2.1, w64 (by omega), Int.mul_comm]
 rfl
theorem one_none (a : Nat) {c : Chk} (hc : OkC c) (h1 : c.f0 ≠ 1) (h2 : c.f0 ≠ 2) : H.blkOne a c = [] := by
 have h4 : c.f4 = 0 := by have := (okC_iff _).mp hc.1; omega
 unfold H.blkOne H.huge
 rw [if_neg h2, noOnes h4]
 rfl
theorem blk_sorted : ∀ (cs : List Chk) (a : Nat) (T : Int), (∀ c ∈ cs, OkC c) → 0 ≤ T → rightGo T cs = true → (∀ b ∈ blkFrom a cs, 32 * ((a : Int) + T) ≤ lo b) ∧ (blkFrom a cs).Pairwise fun b d => hi b ≤ lo d
 | [], a, T, _, _, _ => ⟨fun b hb => by simp [blkFrom] at hb, by simp [blkFrom]⟩
 | c :: cs, a, T, hok, hT, h => by
  have hc := hok c List.mem_cons_self
  have hok' : ∀ d ∈ cs, OkC d := fun d hd => hok d (List.mem_cons_of_mem _ hd)
  rw [rightGo] at h
  split at h
  case isFalse => cases h
  rename_i hiff
  rw [blkFrom_cons]
  by_cases h3 : c.f0 = 3
  ·have hp := hiff.1 h3
   rw [if_pos h3] at h
   rw [one_none a hc (by omega) (by omega), List.nil_append]
   obtain ⟨i1, i2⟩ := blk_sorted cs (a + 1) (T - 1) hok' (by omega) h
   exact ⟨fun b hb => by have := i1 b hb; omega, i2⟩
  ·rw [if_neg h3] at h
   have hT0 : T = 0 := by have : ¬ T > 0 := fun hp => h3 (hiff.2 hp); omega
   subst hT0
   by_cases h2 : c.f0 = 2
   ·have hh := hc.huge h2
    rw [if_pos h2] at h
    obtain ⟨i1, i2⟩ := blk_sorted cs (a + 1) (c.f3 - 1) hok' (by omega) h
    rw [one_huge a hc h2, List.singleton_append]
    have e1 : lo ⟨(a : Int), 0, 32 * c.f3⟩ = 32 * (a : Int) := by unfold lo; show 32 * (a : Int) + 0 * (32 * c.f3) = _; omega
    have e2 : hi ⟨(a : Int), 0, 32 * c.f3⟩ = 32 * (a : Int) + 32 * c.f3 := by unfold hi; rw [e1]
    refine ⟨fun b hb => ?_, List.pairwise_cons.mpr ⟨fun b hb => ?_, i2⟩⟩
    ·rcases List.mem_cons.mp hb with rfl | hb
     ·rw [e1]; omega
     ·have := i1 b hb; omega
    ·have := i1 b hb
     rw [e2]
     omega
   ·rw [if_neg h2] at h
    obtain ⟨i1, i2⟩ := blk_sorted cs (a + 1) 0 hok' (by omega) h
    by_cases h1 : c.f0 = 1
    ·obtain ⟨r1, r2⟩ := one_run a hc h1
     refine ⟨fun b hb => ?_, List.pairwise_append.mpr ⟨r2, i2, fun b hb d hd => ?_⟩⟩
     ·rcases List.mem_append.mp hb with hb | hb
      ·have := (r1 b hb).1; omega
      ·have := i1 b hb; omega
     ·have := (r1 b hb).2
      have := i1 d hd
      omega
    ·rw [one_none a hc h1 h2, List.nil_append]
     exact ⟨fun b hb => by have := i1 b hb; omega, i2⟩
theorem blks_apart (cs : List Chk) (hok : ∀ c ∈ cs, OkC c) (h : rightGo 0 cs = true) : (blks cs).Pairwise fun b d => hi b ≤ lo d := (blk_sorted cs 0 0 hok (by omega) h).2
theorem place_lo (w l : Int) (b : Blk) : placeG w l b = heapAt w l + lo b := by unfold placeG lo; omega
end Go.Proofs.YtbbpcbjgekencaaGreatDoor.PS
end
