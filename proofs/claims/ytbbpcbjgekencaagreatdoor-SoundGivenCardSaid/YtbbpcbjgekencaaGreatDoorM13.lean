import Derived.Test.YtbbpcbjgekencaaGreatDoorM12
section
set_option linter.unusedVariables false
set_option linter.unusedSimpArgs false
set_option linter.unusedVariables false
set_option linter.unusedSimpArgs false
namespace Go.Proofs.YtbbpcbjgekencaaGreatDoor.PS
open Go Go.Proofs.YtbbpcbjgekencaaGreatDoor.Q Go.Proofs.YtbbpcbjgekencaaGreatDoor.FT Go.Proofs.YtbbpcbjgekencaaGreatDoor.Ev
theorem tdivN (a b : Nat) : Int.tdiv (a : Int) (b : Int) = ((a / b : Nat) : Int) := by rw [Int.tdiv_eq_ediv_of_nonneg (by omega)]; norm_cast
theorem tmodN (a b : Nat) : Int.tmod (a : Int) (b : Int) = ((a % b : Nat) : Int) := by rw [Int.tmod_eq_emod_of_nonneg (by omega)]; norm_cast
theorem xor_step (z i : Nat) : z % 2 ^ (i + 1) = z % 2 ^ i + 2 ^ i * (z / 2 ^ i % 2) := Nat.mod_pow_succ
theorem xor_bit (x y i : Nat) : (x ^^^ y) / 2 ^ i % 2 = (if x / 2 ^ i % 2 ≠ y / 2 ^ i % 2 then 1 else 0) := by
 rw [Nat.xor_div_two_pow, H.xor_mod2]
 split <;> omega
theorem pow31 (i : Nat) (h : i ≤ 31) : 2 ^ i ≤ 2147483648 := by
 have : 2 ^ i ≤ 2 ^ 31 := Nat.pow_le_pow_right (by decide) h
 omega
theorem xor_l (x y : Nat) (hx : x < 4294967296) (hy : y < 4294967296) : ∀ (d i p : Nat), 32 - i = d → i ≤ 32 → (i < 32 → p = 2 ^ i) →
  Evt (fun k => r02_xor.c5 k (x : Int) (y : Int) (((x ^^^ y) % 2 ^ i : Nat) : Int) (p : Int) (i : Int)) ((x ^^^ y : Nat) : Int) := by
 intro d
 induction d with
 | zero =>
  intro i p hd hi hp
  obtain rfl : i = 32 := by omega
  have : (x ^^^ y) % 2 ^ 32 = x ^^^ y := Nat.mod_eq_of_lt (Nat.xor_lt_two_pow hx hy)
  rw [this]
  exact Evt.step (f := fun _ => some ((x ^^^ y : Nat) : Int)) (fun k => by rw [r02_xor.c5, if_neg (by decide)]) (Evt.some _)
 | succ d ih =>
  intro i p hd hi hp
  have hi32 : i < 32 := by omega
  obtain rfl := hp hi32
  have hpp := Nat.two_pow_pos i
  have hp31 := pow31 i (by omega)
  have hz := xor_step (x ^^^ y) i
  rw [xor_bit] at hz
  have hlt : (x ^^^ y) % 2 ^ i < 2 ^ i := Nat.mod_lt _ hpp
  have hd1 : x / 2 ^ i ≤ x := Nat.div_le_self _ _
  have hd2 : y / 2 ^ i ≤ y := Nat.div_le_self _ _
  have nx : Evt (fun k => r02_xor.c9 k (x : Int) (y : Int) (((x ^^^ y) % 2 ^ (i + 1) : Nat) : Int) ((2 ^ i : Nat) : Int) (i : Int)) ((x ^^^ y : Nat) : Int) := by
   have h := ih (i + 1) (if i < 31 then 2 ^ (i + 1) else 2 ^ i) (by omega) (by omega) (fun h => by rw [if_pos (by omega)])
   refine Evt.step (f := fun k => r02_xor.c8 k (x : Int) (y : Int) (((x ^^^ y) % 2 ^ (i + 1) : Nat) : Int) ((if i < 31 then 2 ^ (i + 1) else 2 ^ i : Nat) : Int) (i : Int)) (fun k => ?_) (Evt.step (fun k => by rw [r02_xor.c8, i64w (by omega) (by omega)]; rfl) h)
   rw [r02_xor.c9]
   by_cases h31 : i < 31
   ·rw [if_pos (decide_eq_true (by omega)), if_pos h31]
    have : 2 ^ (i + 1) ≤ 2147483648 := pow31 (i + 1) (by omega)
    have e : (2 : Int) * ((2 ^ i : Nat) : Int) = ((2 ^ (i + 1) : Nat) : Int) := by rw [Nat.pow_succ]; omega
    rw [e, u32w (by omega) (by omega)]
   ·rw [if_neg (by simp; omega), if_neg h31]
  refine Evt.step (fun k => ?_) nx
  rw [r02_xor.c5, if_pos (decide_eq_true (by omega)), if_neg (by omega), if_neg (by omega), tdivN, tdivN]
  have hx2 : x / 2 ^ i < 4294967296 := by omega
  have hy2 : y / 2 ^ i < 4294967296 := by omega
  generalize x / 2 ^ i = qx at hz hx2 hd1 ⊢
  generalize y / 2 ^ i = qy at hz hy2 hd2 ⊢
  rw [u32w (x := (qx : Int)) (by omega) (by omega), u32w (x := (qy : Int)) (by omega) (by omega), show (2 : Int) = ((2 : Nat) : Int) from rfl, tmodN, tmodN]
  by_cases hb : qx % 2 ≠ qy % 2
  ·rw [if_pos (by simp; omega)]
   rw [if_pos hb, Nat.mul_one] at hz
   rw [hz]
   generalize (x ^^^ y) % 2 ^ i = A at hlt ⊢
   generalize 2 ^ i = B at hlt hp31 ⊢
   rw [u32w (by omega) (by omega)]
   rfl
  ·rw [if_neg (by simp; omega)]
   rw [if_neg hb, Nat.mul_zero] at hz
   have hz2 : (x ^^^ y) % 2 ^ (i + 1) = (x ^^^ y) % 2 ^ i := hz
   rw [hz2]
theorem xor_eq (x y : Nat) (hx : x < 4294967296) (hy : y < 4294967296) : Evt (fun k => r02_xor.f k (x : Int) (y : Int)) ((x ^^^ y : Nat) : Int) := by
 have := xor_l x y hx hy 32 0 1 (by omega) (by omega) (by simp)
 simpa [r02_xor.f, Nat.mod_one] using this
theorem on_l : ∀ (d i r w : Nat), 64 - i = d → i ≤ 64 → r < 4294967296 → w < 18446744073709551616 → Evt (fun k => r02_On.c3 k (r : Int) (w : Int) (i : Int)) ((H.onN d r w : Nat) : Int) := by
 intro d
 induction d with
 | zero =>
  intro i r w hd hi hr hw
  exact Evt.step (f := fun _ => some (r : Int)) (fun k => by rw [r02_On.c3, if_neg (by simp; omega)]) (Evt.some _)
 | succ d ih =>
  intro i r w hd hi hr hw
  have nx : ∀ r' : Nat, r' < 4294967296 → Evt (fun k => r02_On.c9 k (r' : Int) (w : Int) (i : Int)) ((H.onN d r' (w / 2) : Nat) : Int) := fun r' h' =>
   Evt.step (fun k => by rw [r02_On.c9, show (2 : Int) = ((2 : Nat) : Int) from rfl, tdivN, u64w (by omega) (by omega), i64w (by omega) (by omega)]; rfl) (ih (i + 1) r' (w / 2) (by omega) (by omega) h' (by omega))
  have t1 : IntKind.u64.wrap (Int.tmod (r : Int) 2) = ((r % 2 : Nat) : Int) := by rw [show (2 : Int) = ((2 : Nat) : Int) from rfl, tmodN, u64w (by omega) (by omega)]
  have t2 : Int.tmod (w : Int) 2 = ((w % 2 : Nat) : Int) := by rw [show (2 : Int) = ((2 : Nat) : Int) from rfl, tmodN]
  have t3 : IntKind.u32.wrap (Int.tdiv (r : Int) 2) = ((r / 2 : Nat) : Int) := by rw [show (2 : Int) = ((2 : Nat) : Int) from rfl, tdivN, u32w (by omega) (by omega)]
  by_cases hb : r % 2 = w % 2
  ·have e : H.onN (d + 1) r w = H.onN d (r / 2) (w / 2) := by rw [H.onN, if_pos hb, Nat.xor_zero]
   rw [e]
   refine Evt.step (fun k => ?_) (nx (r / 2) (by omega))
   rw [r02_On.c3, if_pos (decide_eq_true (by omega)), t1, t2, t3, if_neg (by simp; omega)]
  ·have e : H.onN (d + 1) r w = H.onN d (r / 2 ^^^ 3988292384) (w / 2) := by rw [H.onN, if_neg hb]
   rw [e]
   have hx := xor_eq (r / 2) 3988292384 (by omega) (by omega)
   refine Evt.step (f := fun k => (r02_xor.f k ((r / 2 : Nat) : Int) 3988292384).bind fun y0 => r02_On.c9 k y0 (w : Int) (i : Int)) (fun k => ?_) (Evt.bind hx (nx (r / 2 ^^^ 3988292384) (Nat.xor_lt_two_pow (n := 32) (by omega) (by omega))))
   rw [r02_On.c3, if_pos (decide_eq_true (by omega)), t1, t2, t3, if_pos (by simp; omega)]
theorem on_eq (r w : Nat) (hr : r < 4294967296) (hw : w < 18446744073709551616) : Evt (fun k => r02_On.f k (r : Int) (w : Int)) ((H.cBytes 8 r w : Nat) : Int) := by
 rw [H.cBytes_eq]
 exact on_l 64 0 r w (by omega) (by omega) hr hw
theorem getD_toNat (l : List Int) (i : Nat) (h : i < l.length) (hl : U64 l) : l.getD (i : Int).toNat 0 = (((l.map Int.toNat)[i]'(by simpa using h) : Nat) : Int) := by
 rw [Int.toNat_natCast, List.getD_eq_getElem?_getD, List.getElem?_eq_getElem h, List.getElem_map]
 have := (hl _ (List.getElem_mem h)).1
 show l[i] = _
 omega
theorem more_l (l : List Int) (hl : U64 l) (hlen : l.length ≤ 1048576) : ∀ (d i r : Nat), l.length - i = d → i ≤ l.length → r < 4294967296 →
  Evt (fun k => r02_More.c4 k l (r : Int) (i : Int)) ((4294967295 - H.crcRun r ((l.map Int.toNat).drop i) : Nat) : Int) := by
 intro d
 induction d with
 | zero =>
  intro i r hd hi hr
  obtain rfl : i = l.length := by omega
  have : (l.map Int.toNat).drop l.length = [] := by simp
  rw [this]
  refine Evt.step (f := fun _ => some ((4294967295 - r : Nat) : Int)) (fun k => ?_) (Evt.some _)
  rw [r02_More.c4, if_neg (by simp), u32w (by omega) (by omega)]
  congr 1
  omega
 | succ d ih =>
  intro i r hd hi hr
  have hlt : i < l.length := by omega
  have hlt' : i < (l.map Int.toNat).length := by simpa using hlt
  have hw : (l.map Int.toNat)[i] < 18446744073709551616 := by
   rw [List.getElem_map]
   have := hl _ (List.getElem_mem hlt)
   have h1 := this.1
   have h2 := this.2
   omega
  have hon := on_eq r (l.map Int.toNat)[i] hr hw
  have hlt2 : H.cBytes 8 r (l.map Int.toNat)[i] < 4294967296 := by rw [H.cBytes_eq]; exact H.onN_lt _ _ _ hr
  have h := ih (i + 1) (H.cBytes 8 r (l.map Int.toNat)[i]) (by omega) (by omega) hlt2
  rw [List.drop_eq_getElem_cons hlt']
  refine Evt.step (f := fun k => (r02_On.f k (r : Int) (((l.map Int.toNat)[i] : Nat) : Int)).bind fun y0 => r02_More.c4 k l y0 ((i + 1 : Nat) : Int)) (fun k => ?_) (Evt.bind hon h)
  rw [r02_More.c4, if_pos (decide_eq_true (by omega)), if_pos (by omega), if_pos (by omega), getD_toNat l i hlt hl, i64w (by omega) (by omega)]
  rfl
theorem crc_eq (l : List Int) (hl : U64 l) (hlen : l.length ≤ 1048576) : Evt (fun k => r02_Of.f k l) (H.sealL l) := by
 have h := more_l l hl hlen l.length 0 4294967295 (by omega) (by omega) (by omega)
 unfold r02_Of.f r02_More.f
 refine Evt.bind (a := H.sealL l) ?_ (Evt.some _)
 rw [List.drop_zero] at h
 refine Evt.congr h (fun k => ?_)
 rw [show IntKind.u32.wrap (4294967295 - 0) = ((4294967295 : Nat) : Int) by decide +kernel]
 rfl
theorem refEnc_rounds (k : Nat) (w l : Int) : r06_Encode.c9 (k + 9) 0 (ByteArray.mk (Array.mk [84, 83, 65, 70, 75, 67, 79, 76])) 0 w l =
  (r05_Chunks.f k w l).bind fun y1 => (r02_Of.f k [6076272092419149644, 1, IntKind.u64.wrap w, IntKind.u64.wrap l, IntKind.u64.wrap y1, 0, 0]).bind fun y2 =>
   some (0, [6076272092419149644, 1, IntKind.u64.wrap w, IntKind.u64.wrap l, IntKind.u64.wrap y1, 0, 0] ++ [IntKind.u64.wrap y2]) := by kernel_rfl
theorem sealL_lt (l : List Int) : 0 ≤ H.sealL l ∧ H.sealL l < 4294967296 := by
 unfold H.sealL
 have := H.crcL_lt 0 (l.map Int.toNat)
 omega
theorem Evt.shift {α : Type} {g f : Nat → Option α} {r : α} (n : Nat) (h : ∀ k, g (k + n) = f k) (e : Evt f r) : Evt g r := by
 obtain ⟨K, hK⟩ := e
 refine ⟨K + n, fun k hk => ?_⟩
 obtain ⟨j, rfl⟩ : ∃ j, k = j + n := ⟨k - n, by omega⟩
 rw [h]
 exact hK j (by omega)
theorem refEnc_yes (w l : Int) (h : Geo w l) (hw : w ≤ 1048576) : Evt (fun k => r06_Encode.f k w l) (0, H.headL w l (chunksG w l)) := by
 have hl := h.l
 have hg : 1 ≤ chunksG w l := h
 unfold r06_Encode.f
 refine Evt.bind (Evt.shift 2000 (fun k => refRight05_eq k w l) (Evt.some _)) ?_
 rw [decide_eq_true h]
 refine Evt.congr (f := fun k => r06_Encode.c9 k 0 (ByteArray.mk (Array.mk [84, 83, 65, 70, 75, 67, 79, 76])) 0 w l) ?_ (fun k => by rw [if_neg (by simp)])
 refine Evt.shift 9 (fun k => refEnc_rounds k w l) ?_
 refine Evt.bind (Evt.shift 2000 (fun k => refChunks_eq k w l) (Evt.some _)) ?_
 rw [u64w (x := w) (by omega) (by omega), u64w (x := l) (by omega) (by omega), u64w (x := chunksG w l) (by omega) (by omega)]
 have hU : U64 [6076272092419149644, 1, w, l, chunksG w l, 0, 0] := by
  intro x hx
  simp only [List.mem_cons, List.not_mem_nil, or_false] at hx
  unfold Wd
  rcases hx with rfl | rfl | rfl | rfl | rfl | rfl | rfl <;> omega
 refine Evt.bind (crc_eq _ hU (by simp)) ?_
 have := sealL_lt [6076272092419149644, 1, w, l, chunksG w l, 0, 0]
 rw [u64w (by omega) (by omega)]
 exact Evt.some _
theorem refEnc_no (w l : Int) (h : ¬ Geo w l) : Evt (fun k => r06_Encode.f k w l) (1, []) := by
 unfold r06_Encode.f
 refine Evt.bind (Evt.shift 2000 (fun k => refRight05_eq k w l) (Evt.some _)) ?_
 rw [decide_eq_false h]
 exact Evt.congr (Evt.some (1, [])) (fun k => by rw [if_pos (by simp)])
def lanesOf (l : List Int) : Int := l.getD 3 0
def HeadOk (l : List Int) (n : Int) : Prop := Geo (l.length : Int) n ∧ l.take 8 = H.headL (l.length : Int) n (chunksG (l.length : Int) n)
noncomputable instance (l : List Int) (n : Int) : Decidable (HeadOk l n) := inferInstanceAs (Decidable (_ ∧ _))
noncomputable def superT (l : List Int) : Int × Int × Int := if HeadOk l (lanesOf l) then ((l.length : Int), lanesOf l, 0) else (0, 0, 7)
theorem headL_len (a b n : Int) : (H.headL a b n).length = 8 := rfl
theorem HeadOk.len {l : List Int} {n : Int} (h : HeadOk l n) : 8 ≤ l.length := by
 have := congrArg List.length h.2
 rw [headL_len, List.length_take] at this
 omega
theorem HeadOk.lanes {l : List Int} {n : Int} (h : HeadOk l n) : lanesOf l = n := by
 have h8 := h.len
 have h3 : (l.take 8)[3]? = some n := by rw [h.2]; rfl
 rw [List.getElem?_take, if_pos (by omega)] at h3
 unfold lanesOf
 rw [List.getD_eq_getElem?_getD, h3]
 rfl
theorem super_eq (l : List Int) (hl : U64 l) (hlen : l.length ≤ 1048576) : H.super_Decode.f l = some (superT l) := by
 unfold H.super_Decode.f
 rw [if_pos (fun x hx => ⟨(hl x hx).1, by have := (hl x hx).2; omega⟩)]
 unfold H.superV superT
 by_cases h8 : l.length < 8
 ·rw [if_pos h8, if_neg (fun h => by have := h.len; omega)]
 rw [if_neg h8]
 have e : Go.Proofs.YtbbpcbjgekencaaGreatDoorW.PrintWords.rd l 3 = lanesOf l := rfl
 rw [e]
 by_cases h64 : lanesOf l > 64
 ·rw [if_pos h64, if_neg (fun h => by have := h.1.l; omega)]
 rw [if_neg h64]
 unfold H.geo_Right.f H.geo_Chunks.f
 rw [geoRight_eq, Option.bind_some]
 by_cases hg : Geo (l.length : Int) (lanesOf l)
 ·have := hg.l
  have hgg : 1 ≤ chunksG (l.length : Int) (lanesOf l) := hg
  rw [decide_eq_true hg, if_pos rfl, geoChunks_eq, Option.bind_some, if_pos ⟨by omega, by omega⟩]
  by_cases ht : l.take 8 = H.headL (l.length : Int) (lanesOf l) (chunksG (l.length : Int) (lanesOf l))
  ·rw [if_pos ht, if_pos ⟨hg, ht⟩]
  ·rw [if_neg ht, if_neg (fun h => ht h.2)]
 ·rw [decide_eq_false hg, if_neg (by decide), if_neg (fun h => hg h.1)]
theorem refDec_in (l A : List Int) (n : Int) (hA : A.length = 8) (h8 : 8 ≤ l.length) (r s : Int × Int × Int) (h0 : Evt (fun k => r06_Decode.c3 k l (IntKind.i64.wrap (n + 1))) r) :
  ∀ (d j : Nat), 8 - j = d → j ≤ 8 → Evt (fun k => r06_Decode.c12 k l n true (j : Int) (l.length : Int) n A) (if A.drop j = (l.take 8).drop j then ((l.length : Int), n, 0) else r) := by
 intro d
 have hno : Evt (fun k => r06_Decode.c12 k l n false 0 (l.length : Int) n A) r := Evt.step (fun k => by rw [r06_Decode.c12, if_neg (by decide), if_neg (by decide)]) h0
 have hno' : ∀ j : Int, Evt (fun k => r06_Decode.c12 k l n false j (l.length : Int) n A) r := fun j => Evt.step (fun k => by rw [r06_Decode.c12, if_neg (by decide), if_neg (by decide)]) h0
 induction d with
 | zero =>
  intro j hd hj
  obtain rfl : j = 8 := by omega
  have e : A.drop 8 = (l.take 8).drop 8 := by rw [List.drop_eq_nil_of_le (by omega), List.drop_eq_nil_of_le (by rw [List.length_take]; omega)]
  rw [if_pos e]
  exact Evt.step (f := fun _ => some ((l.length : Int), n, 0)) (fun k => by rw [r06_Decode.c12, if_pos rfl, if_neg (by decide), if_pos rfl]) (Evt.some _)
 | succ d ih =>
  intro j hd hj
  have hja : j < A.length := by omega
  have hjl : j < l.length := by omega
  have hjt : j < (l.take 8).length := by rw [List.length_take]; omega
  have hstep : ∀ k, r06_Decode.c12 (k + 1) l n true (j : Int) (l.length : Int) n A = r06_Decode.c12 k l n (A[j] == l[j]) ((j + 1 : Nat) : Int) (l.length : Int) n A := fun k => by
   rw [r06_Decode.c12, if_pos rfl, if_pos (decide_eq_true (by omega)), if_pos (by omega), if_pos (by omega), if_pos (by omega), if_pos (by omega), if_pos (by omega), gd A j 0 hja, gd l j 0 hjl, i64w (by omega) (by omega)]
   rfl
  rw [List.drop_eq_getElem_cons hja, List.drop_eq_getElem_cons hjt, List.getElem_take]
  by_cases he : A[j] = l[j]
  ·refine Evt.step hstep ?_
   have := ih (j + 1) (by omega) (by omega)
   rw [show (A[j] == l[j]) = true by simpa using he]
   refine this.eq ?_
   simp [he]
  ·refine Evt.step hstep ?_
   rw [show (A[j] == l[j]) = false by simpa using he, if_neg (fun h => he (List.cons.inj h).1)]
   exact hno' _
theorem refDec_l (l : List Int) (hl : U64 l) (hlen : l.length ≤ 1048576) : ∀ (d : Nat) (n : Int), 65 - n = d → 1 ≤ n →
  Evt (fun k => r06_Decode.c3 k l n) (if n ≤ lanesOf l ∧ HeadOk l (lanesOf l) then ((l.length : Int), lanesOf l, 0) else (0, 0, 7)) := by
 intro d
 induction d with
 | zero =>
  intro n hd hn
  rw [if_neg (fun h => by have := h.2.1.l; omega)]
  exact Evt.step (f := fun _ => some (0, 0, 7)) (fun k => by rw [r06_Decode.c3, if_neg (by simp; omega)]) (Evt.some _)
 | succ d ih =>
  intro n hd hn
  by_cases h8 : 8 ≤ l.length
  ·have h := ih (n + 1) (by omega) (by omega)
   rw [← i64w (x := n + 1) (by omega) (by omega)] at h
   have hi : IntKind.i64.wrap (n + 1) = n + 1 := i64w (by omega) (by omega)
   by_cases hg : Geo (l.length : Int) n
   ·refine Evt.step (f := fun k => (r06_Encode.f k (l.length : Int) n).bind fun y0 => r06_Decode.c12 k l n (y0.fst == 0) 0 (l.length : Int) n y0.snd) (fun k => by rw [r06_Decode.c3, if_pos (by simp; omega), if_pos (by simp; omega)]) ?_
    refine Evt.bind (refEnc_yes _ _ hg (by omega)) ?_
    refine (refDec_in l (H.headL (l.length : Int) n (chunksG (l.length : Int) n)) n rfl h8 _ (0, 0, 0) h 8 0 (by omega) (by omega)).eq ?_
    rw [List.drop_zero, List.drop_zero, hi]
    by_cases hh : H.headL (l.length : Int) n (chunksG (l.length : Int) n) = l.take 8
    ·have hk : HeadOk l n := ⟨hg, hh.symm⟩
     have hq := hk.lanes
     rw [if_pos hh, hq, if_pos ⟨by omega, hk⟩]
    ·rw [if_neg hh]
     by_cases hx : n ≤ lanesOf l ∧ HeadOk l (lanesOf l)
     ·have : n ≠ lanesOf l := fun e => hh (by rw [← e] at hx; exact hx.2.2.symm)
      rw [if_pos hx, if_pos ⟨by omega, hx.2⟩]
     ·rw [if_neg hx, if_neg (fun h => hx ⟨by omega, h.2⟩)]
   ·refine Evt.step (f := fun k => (r06_Encode.f k (l.length : Int) n).bind fun y0 => r06_Decode.c12 k l n (y0.fst == 0) 0 (l.length : Int) n y0.snd) (fun k => by rw [r06_Decode.c3, if_pos (by simp; omega), if_pos (by simp; omega)]) ?_
    refine Evt.bind (refEnc_no _ _ hg) ?_
    refine Evt.step (fun k => by rw [r06_Decode.c12, if_neg (by decide), if_neg (by decide)]) (h.eq ?_)
    rw [hi]
    by_cases hx : n ≤ lanesOf l ∧ HeadOk l (lanesOf l)
    ·have : n ≠ lanesOf l := fun e => hg (by rw [← e] at hx; exact hx.2.1)
     rw [if_pos hx, if_pos ⟨by omega, hx.2⟩]
    ·rw [if_neg hx, if_neg (fun h => hx ⟨by omega, h.2⟩)]
  ·rw [if_neg (fun h => by have := h.2.len; omega)]
   exact Evt.step (f := fun _ => some (0, 0, 7)) (fun k => by rw [r06_Decode.c3, if_pos (by simp; omega), if_neg (by simp; omega)]) (Evt.some _)
theorem refSuper_eq (l : List Int) (hl : U64 l) (hlen : l.length ≤ 1048576) : Evt (fun k => r06_Decode.f k l) (superT l) := by
 refine (refDec_l l hl hlen 64 1 (by omega) (by omega)).eq ?_
 unfold superT
 by_cases h : HeadOk l (lanesOf l)
 ·rw [if_pos h, if_pos ⟨by have := h.1.l; omega, h⟩]
 ·rw [if_neg h, if_neg (fun hh => h hh.2)]
end Go.Proofs.YtbbpcbjgekencaaGreatDoor.PS
end
section
set_option linter.unusedVariables false
set_option linter.unusedSimpArgs false
set_option linter.unusedVariables false
set_option linter.unusedSimpArgs false
namespace Go.Proofs.YtbbpcbjgekencaaGreatDoor.PS
open Go Go.Proofs.YtbbpcbjgekencaaGreatDoor.Q Go.Proofs.YtbbpcbjgekencaaGreatDoor.FT Go.Proofs.YtbbpcbjgekencaaGreatDoor.Ev
theorem rightGo_at (cs : List Chk) (hok : ∀ c ∈ cs, OkC c) (h : rightGo 0 cs = true) (i : Nat) (hi : i < cs.length) : rightAt cs i := by
 have h' := rightGo_iff cs hok cs.length 0 0 (by omega) (by omega) (by omega) (fun k _ h => by omega) (fun h => by omega)
 rw [List.drop_zero] at h'
 exact (h'.mp h).1 i (Nat.zero_le _) hi
def SzOk (b : Blk) : Prop := (b.f2 = 4 ∨ b.f2 = 8 ∨ b.f2 = 16) ∨ (b.f1 = 0 ∧ ∃ m : Int, 1 ≤ m ∧ b.f2 = 32 * m)
theorem blk_in (cs : List Chk) (hl : cs.length ≤ 1048576) (hok : ∀ c ∈ cs, OkC c) (h : rightGo 0 cs = true) : ∀ b ∈ blks cs, BlkIn (cs.length : Int) b ∧ SzOk b := by
 intro b hb
 unfold blks H.blkAll at hb
 rw [List.mem_flatMap] at hb
 obtain ⟨⟨c, i⟩, hp, hb⟩ := hb
 have hp := List.mk_mem_zipIdx_iff_getElem?.mp hp
 obtain ⟨hi, rfl⟩ := List.getElem?_eq_some_iff.mp hp
 have hc := hok _ (List.getElem_mem hi)
 unfold H.blkOne at hb
 rw [List.mem_append] at hb
 rcases hb with hb | hb
 ·unfold H.huge at hb
  split at hb
  ·rename_i h2
   simp only [List.mem_singleton] at hb
   subst hb
   have hh := hc.huge h2
   obtain ⟨_, _, hf⟩ := rightGo_at cs hok h i hi
   have hf := hf h2
   have e : Go.RowKit.wrap64 (cs[i].f3 * 32) = cs[i].f3 * 32 := w64 (by omega)
   refine ⟨⟨by show (0 : Int) ≤ (i : Int); omega, by show (i : Int) < _; omega, by show (0 : Int) ≤ 0; omega, by show (4 : Int) ≤ Go.RowKit.wrap64 _; omega, ?_, .inl rfl, by show (0 : Int) < 8; omega⟩, .inr ⟨rfl, cs[i].f3, by omega, by show Go.RowKit.wrap64 _ = _; omega⟩⟩
   show 32 * (i : Int) + 0 * Go.RowKit.wrap64 (cs[i].f3 * 32) + Go.RowKit.wrap64 (cs[i].f3 * 32) ≤ _
   rw [e]
   omega
  ·cases hb
 ·rw [List.mem_map] at hb
  obtain ⟨j, hj, rfl⟩ := hb
  unfold H.onesI at hj
  rw [List.mem_map] at hj
  obtain ⟨n, hn, rfl⟩ := hj
  unfold H.ones at hn
  rw [List.mem_filter, List.mem_range] at hn
  obtain ⟨hn, hbit⟩ := hn
  have hc1 : cs[i].f1 = 0 ∨ cs[i].f1 = 1 ∨ cs[i].f1 = 2 := by
   have := hc.range
   by_cases h3 : cs[i].f1 = 3
   ·rw [h3] at hn
    have : H.manyW 3 = 0 := by decide
    rw [this] at hn
    omega
   ·omega
  have key : ∀ (w m : Int), (n : Int) < m → m * w = 32 → (w = 4 ∨ w = 8 ∨ w = 16) → BlkIn (cs.length : Int) ⟨(i : Int), (n : Int), w⟩ ∧ SzOk ⟨(i : Int), (n : Int), w⟩ := by
   intro w m hnm hmw hw
   have hfit : (n : Int) * w + w ≤ 32 := by
    rcases hw with rfl | rfl | rfl <;> omega
   exact ⟨⟨by show (0 : Int) ≤ (i : Int); omega, by show (i : Int) < _; omega, by show (0 : Int) ≤ (n : Int); omega, by show (4 : Int) ≤ w; omega, by show 32 * (i : Int) + (n : Int) * w + w ≤ _; omega, .inr (by show w < 32; omega), by show (n : Int) < 8; rcases hw with rfl | rfl | rfl <;> omega⟩, .inl hw⟩
  rcases hc1 with e | e | e
  ·rw [e] at hn
   have e2 : H.manyW 0 = 8 := by decide
   rw [e2] at hn
   have := key 4 8 (by omega) (by omega) (by omega)
   unfold H.mkB
   rw [e]
   exact this
  ·rw [e] at hn
   have e2 : H.manyW 1 = 4 := by decide
   rw [e2] at hn
   have := key 8 4 (by omega) (by omega) (by omega)
   unfold H.mkB
   rw [e]
   exact this
  ·rw [e] at hn
   have e2 : H.manyW 2 = 2 := by decide
   rw [e2] at hn
   have := key 16 2 (by omega) (by omega) (by omega)
   unfold H.mkB
   rw [e]
   exact this
def wd (x : List Int) (a : Int) : Int := x.getD a.toNat 0
theorem wd_Wd (x : List Int) (hx : U64 x) (a : Int) : Wd (wd x a) := by
 unfold wd
 rw [List.getD_eq_getElem?_getD]
 cases h : x[a.toNat]? with
 | none => exact ⟨by decide, by decide⟩
 | some v => exact hx v (List.mem_of_getElem? h)
theorem two_words (x : List Int) (a : Int) (h0 : 0 ≤ a) (h : a + 2 ≤ x.length) : x.drop a.toNat = wd x a :: wd x (a + 1) :: x.drop (a + 2).toNat := by
 have h1 : a.toNat < x.length := by omega
 have h2 : a.toNat + 1 < x.length := by omega
 rw [List.drop_eq_getElem_cons h1, List.drop_eq_getElem_cons h2]
 unfold wd
 rw [show (a + 1).toNat = a.toNat + 1 by omega, show (a + 2).toNat = a.toNat + 1 + 1 by omega, List.getD_eq_getElem?_getD, List.getD_eq_getElem?_getD, List.getElem?_eq_getElem h1, List.getElem?_eq_getElem h2]
 rfl
def mkH (h : Int × Int × Int × Bool) (w : Int) : Int × Int × Int × Bool := (h.1, h.2.1, h.2.2.1, h.2.2.2 && roomS h.2.1 == w)
def hdV (x : List Int) (l : Int) (b : Blk) : Int × Int × Int × Bool := mkH (headT (wd x (placeG (x.length : Int) l b)) (wd x (placeG (x.length : Int) l b + 1))) b.f2
theorem headT_size (a b : Int) (h : (headT a b).2.2.2 = true) : 0 ≤ (headT a b).2.1 ∧ (headT a b).2.1 ≤ 4096 ∧ 1 ≤ (headT a b).1 ∧ (headT a b).1 ≤ 65535 ∧ 1 ≤ (headT a b).2.2.1 ∧ (headT a b).2.2.1 = b := by
 unfold headT at h ⊢
 split at h
 ·rename_i hc
  rw [if_pos hc]
  have := hc.1
  unfold rightH at this
  simp only [decide_eq_true_eq] at this
  exact ⟨this.2.2.1, this.2.2.2.1, this.1, this.2.1, this.2.2.2.2, rfl⟩
 ·cases h
theorem place_fit {x : List Int} {l : Int} {b : Blk} (h : Geo (x.length : Int) l) (hb : BlkIn (chunksG (x.length : Int) l) b) : 0 ≤ placeG (x.length : Int) l b ∧ placeG (x.length : Int) l b + b.f2 ≤ x.length := by
 have h1 := h.l
 have h2 := hb.fit
 have h3 := hb.mul
 have h4 := hb.c0
 have h5 : 1 ≤ chunksG (x.length : Int) l := h
 unfold placeG heapAt
 omega
theorem header_eq (k : Nat) (x : List Int) (l : Int) (b : Blk) (hx : U64 x) (h : Geo (x.length : Int) l) (hb : BlkIn (chunksG (x.length : Int) l) b) :
  sound_pool_header.f k x (x.length : Int) l b.f0 b.f1 b.f2 = some (hdV x l b) := by
 have hf := place_fit h hb
 have hw := hb.w0
 unfold sound_pool_header.f
 rw [place_eq k _ l b h hb, Option.bind_some, if_pos hf.1, if_pos (by omega), if_pos (by omega), Int.toNat_natCast, List.take_length, two_words x _ hf.1 (by omega), oidDecode_eq k _ _ _ (wd_Wd x hx _) (wd_Wd x hx _).1, Option.bind_some]
 unfold hdV mkH
 cases hr : (headT (wd x (placeG (x.length : Int) l b)) (wd x (placeG (x.length : Int) l b + 1))).2.2.2 with
 | false => simp [hr]
 | true =>
  have hs := headT_size _ _ hr
  rw [if_pos rfl, room_eq k _ hs.1 hs.2.1, Option.bind_some, Bool.true_and]
theorem roomS_small {s w : Int} (h0 : 0 ≤ s) (h1 : s ≤ 4096) (hw : w = 4 ∨ w = 8 ∨ w = 16) : (roomS s == w) = (if ofS s ≥ 0 then H.blockW (ofS s) == w else false) := by
 unfold roomS blockS chunksS ofS H.blockW
 rw [Bool.eq_iff_iff]
 by_cases a : s ≤ 2
 ·simp [a, show s ≤ 14 by omega]
 by_cases b : s ≤ 6
 ·simp [a, b, show s ≤ 14 by omega]
 by_cases c : s ≤ 14
 ·simp [a, b, c]
 ·simp [a, b, c]
  omega
theorem roomS_huge {s m : Int} (h0 : 0 ≤ s) (h1 : s ≤ 4096) (hm : 1 ≤ m) : (roomS s == 32 * m) = (chunksS s == m) := by
 unfold roomS blockS chunksS
 rw [Bool.eq_iff_iff]
 simp only [beq_iff_eq]
 split <;> split <;> (try split) <;> (try split) <;> omega
theorem refHeader_eq (x : List Int) (l : Int) (b : Blk) (hx : U64 x) (h : Geo (x.length : Int) l) (hb : BlkIn (chunksG (x.length : Int) l) b) (hs : SzOk b) :
  Evt (fun k => r16_Header.f k x (x.length : Int) l b.f0 b.f1 b.f2) (hdV x l b) := by
 have hf := place_fit h hb
 have hl := h.l
 have hw := hb.w0
 unfold r16_Header.f
 refine Evt.bind (Evt.at 2000 fun k => refPlace_eq k _ l b h hb) ?_
 refine Evt.congr (f := fun k => (r08_Decode.f k (List.drop (placeG (x.length : Int) l b).toNat (List.take (placeG (x.length : Int) l b + 2).toNat x))).bind fun y1 => (if (!y1.snd.snd.snd) = true then (some (y1.fst, y1.snd.fst, y1.snd.snd.fst, false)) else (if decide (b.f2 < 32) = true then ((r09_Of.f k y1.snd.fst).bind fun y2 => (if decide (y2 ≥ 0) = true then ((r09_Block.f k y2).bind fun y3 => (some (y1.fst, y1.snd.fst, y1.snd.snd.fst, y3 == b.f2))) else (some (y1.fst, y1.snd.fst, y1.snd.snd.fst, false)))) else ((r09_Chunks.f k y1.snd.fst).bind fun y4 => (some (y1.fst, y1.snd.fst, y1.snd.snd.fst, y4 == IntKind.i64.wrap (b.f2.tdiv 32))))))) ?_ (fun k => by
  rw [if_pos hf.1, i64w (x := placeG (x.length : Int) l b + 2) (by omega) (by omega), if_pos (by omega), if_pos (by omega)])
 have e : List.drop (placeG (x.length : Int) l b).toNat (List.take (placeG (x.length : Int) l b + 2).toNat x) = wd x (placeG (x.length : Int) l b) :: wd x (placeG (x.length : Int) l b + 1) :: [] := by
  rw [List.drop_take, two_words x _ hf.1 (by omega), show (placeG (x.length : Int) l b + 2).toNat - (placeG (x.length : Int) l b).toNat = 2 by omega]
  rfl
 rw [e]
 refine Evt.bind (Evt.of fun k => refOidDecode_eq k _ _ _ (wd_Wd x hx _)) ?_
 unfold hdV mkH
 cases hr : (headT (wd x (placeG (x.length : Int) l b)) (wd x (placeG (x.length : Int) l b + 1))).2.2.2 with
 | false => exact Evt.congr (Evt.some _) (fun k => by rw [if_pos (by simp), Bool.false_and])
 | true =>
  have hz := headT_size _ _ hr
  generalize headT (wd x (placeG (x.length : Int) l b)) (wd x (placeG (x.length : Int) l b + 1)) = T at hz hr ⊢
  rcases hs with hs | ⟨_, m, hm, hs⟩
  ·refine Evt.congr (f := fun k => (r09_Of.f k T.2.1).bind fun y2 => (if decide (y2 ≥ 0) = true then ((r09_Block.f k y2).bind fun y3 => (some (T.1, T.2.1, T.2.2.1, y3 == b.f2))) else (some (T.1, T.2.1, T.2.2.1, false)))) ?_ (fun k => by rw [if_neg (by simp), if_pos (decide_eq_true (by omega))])
   refine Evt.bind (Evt.at 4 fun k => of09 k _ hz.1 hz.2.1) ?_
   rw [Bool.true_and, roomS_small hz.1 hz.2.1 hs]
   by_cases ho : ofS T.2.1 ≥ 0
   ·rw [if_pos ho]
    exact Evt.congr (Evt.some _) (fun k => by rw [if_pos (decide_eq_true ho), blk09, Option.bind_some])
   ·rw [if_neg ho]
    exact Evt.congr (Evt.some _) (fun k => by rw [if_neg (by simpa using ho)])
  ·have hm2 : m ≤ 1048576 := by have := hb.fit; have := hb.mul; have := hb.c0; unfold heapAt at *; omega
   refine Evt.congr (f := fun k => (r09_Chunks.f k T.2.1).bind fun y4 => (some (T.1, T.2.1, T.2.2.1, y4 == IntKind.i64.wrap (b.f2.tdiv 32)))) ?_ (fun k => by rw [if_neg (by simp), if_neg (by simp; omega)])
   refine Evt.bind (Evt.at 140 fun k => chunks09 k _ hz.1 hz.2.1) ?_
   rw [Bool.true_and, hs, roomS_huge hz.1 hz.2.1 hm, Int.tdiv_eq_ediv_of_nonneg (by omega), i64w (by omega) (by omega), show 32 * m / 32 = m by omega]
   exact Evt.some _
end Go.Proofs.YtbbpcbjgekencaaGreatDoor.PS
end
section
set_option linter.unusedVariables false
set_option linter.unusedSimpArgs false
set_option linter.unusedVariables false
set_option linter.unusedSimpArgs false
namespace Go.Proofs.YtbbpcbjgekencaaGreatDoor.PS
open Go Go.Proofs.YtbbpcbjgekencaaGreatDoor.Q Go.Proofs.YtbbpcbjgekencaaGreatDoor.FT Go.Proofs.YtbbpcbjgekencaaGreatDoor.Ev
def idle (x : List Int) (i : Nat) : Bool := (markT (wd x (10 + (i : Int)))).2.2.2 && (markT (wd x (10 + (i : Int)))).1 == 0
def marksV (x : List Int) (l : Int) : Bool := (List.range l.toNat).all (idle x)
def serV (x : List Int) (l : Int) (b : Blk) : Int := (hdV x l b).2.2.1
def objV (x : List Int) (l : Int) : List Int → List Blk → Bool
 | _, [] => true
 | S, b :: bs => (hdV x l b).2.2.2 && (!(S.contains (serV x l b)) && (decide (serV x l b / 4294967296 ≤ wd x 9) && objV x l (S ++ [serV x l b]) bs))
def tabC (x : List Int) (l : Int) : List Chk := (chV (tabL x l)).2
noncomputable def bsV (x : List Int) (l : Int) : List Blk := blks (tabC x l)
def tilesV (x : List Int) (l : Int) : Bool := rightV (tabL x l) && (tabC x l).all fun c => !(c.f0 == 4)
noncomputable def objsV (x : List Int) (l : Int) : Bool := objV x l [] (bsV x l) && decide (wd x 9 ≤ 4294967295)
noncomputable def rootV (x : List Int) (l : Int) : Bool := wd x 8 == 0 || (bsV x l).any fun b => placeG (x.length : Int) l b == wd x 8
noncomputable def restV (x : List Int) (l : Int) : Bool := marksV x l && (tilesV x l && (objsV x l && rootV x l))
noncomputable def soundV (x : List Int) : Bool := decide (HeadOk x (lanesOf x)) && restV x (lanesOf x)
section
variable {x : List Int} {l : Int}
theorem marks_l (hx : U64 x) (h : Geo (x.length : Int) l) : ∀ (d i : Nat), l.toNat - i = d → i ≤ l.toNat →
  Evt (fun k => sound_pool_marks.c3 k l (i : Int) x (x.length : Int) l) ((List.range' i d).all (idle x)) := by
 have hl := h.l
 have hg : 1 ≤ chunksG (x.length : Int) l := h
 intro d
 induction d with
 | zero =>
  intro i hd hi
  exact Evt.step (f := fun _ => some true) (fun k => by rw [sound_pool_marks.c3, if_neg (by simp; omega)]) (Evt.some _)
 | succ d ih =>
  intro i hd hi
  have hlt : (i : Int) < l := by omega
  rw [List.range'_succ, List.all_cons]
  have hs : ∀ k, sound_pool_marks.c3 (k + 1) l (i : Int) x (x.length : Int) l = if idle x i = true then sound_pool_marks.c3 k l ((i + 1 : Nat) : Int) x (x.length : Int) l else some false := fun k => by
   rw [sound_pool_marks.c3, if_pos (decide_eq_true hlt), geoMark_eq k _ l _ h (by omega) hlt, Option.bind_some, if_pos (by omega), if_pos (by omega), show x.getD (10 + (i : Int)).toNat 0 = wd x (10 + (i : Int)) from rfl, mark_eq k _ (wd_Wd x hx _), Option.bind_some, i64w (by omega) (by omega)]
   show (if (!(markT (wd x (10 + (i : Int)))).2.2.2) = false then if ((markT (wd x (10 + (i : Int)))).1 != 0) = true then some false else sound_pool_marks.c3 k l ((i : Int) + 1) x (x.length : Int) l else some false) = _
   unfold idle
   cases (markT (wd x (10 + (i : Int)))).2.2.2 with
   | false => simp
   | true =>
    by_cases h0 : (markT (wd x (10 + (i : Int)))).1 = 0
    ·simp [h0]
    ·simp [h0]
  cases hq : idle x i with
  | true => exact Evt.step (fun k => by rw [hs, if_pos hq]) (by rw [Bool.true_and]; exact ih (i + 1) (by omega) (by omega))
  | false => exact Evt.step (f := fun _ => some false) (fun k => by rw [hs, if_neg (by rw [hq]; decide)]) (by rw [Bool.false_and]; exact Evt.some _)
theorem marks_eq (hx : U64 x) (h : Geo (x.length : Int) l) : Evt (fun k => sound_pool_marks.f k x (x.length : Int) l) (marksV x l) := by
 have := marks_l hx h l.toNat 0 (by omega) (by omega)
 unfold marksV
 rw [List.range_eq_range']
 exact this
theorem tab_len (hlen : x.length ≤ 1048576) (h : Geo (x.length : Int) l) : (tabL x l).length ≤ 1048576 := by
 have := h.l
 have h2 := tabL_len x l h
 omega
theorem tiles_l (hx : U64 x) (h : Geo (x.length : Int) l) (hlen : x.length ≤ 1048576) (cs : List Chk) (hcs : cs.length ≤ 1048576) : ∀ (d i : Nat), cs.length - i = d → i ≤ cs.length →
  Evt (fun k => sound_pool_tiles.c4 k (cs.length : Int) (i : Int) x (x.length : Int) l cs) (((cs.drop i).all fun c => !(c.f0 == 4)) && rightV (tabL x l)) := by
 intro d
 induction d with
 | zero =>
  intro i hd hi
  obtain rfl : i = cs.length := by omega
  rw [List.drop_length, List.all_nil, Bool.true_and]
  refine Evt.step (f := fun k => (sound_pool_table.f k x (x.length : Int) l).bind fun y2 => (tile_Right.f k y2).bind fun y3 => some y3) (fun k => by rw [sound_pool_tiles.c4, if_neg (by simp)]) ?_
  refine Evt.bind (Evt.of fun k => table_eq k x l h) ?_
  exact Evt.bind (right_eqT _ (tab_len hlen h) (tabL_U64 x l hx)) (Evt.some _)
 | succ d ih =>
  intro i hd hi
  have hlt : i < cs.length := by omega
  rw [List.drop_eq_getElem_cons hlt, List.all_cons]
  by_cases h4 : cs[i].f0 = 4
  ·rw [show (cs[i].f0 == 4) = true by simpa using h4]
   exact Evt.step (f := fun _ => some false) (fun k => by rw [sound_pool_tiles.c4, if_pos (decide_eq_true (by omega)), if_pos (by omega), if_pos (by omega), if_pos (by omega), gd cs i _ hlt, if_pos (by simpa using h4)]) (Evt.some _)
  ·rw [show (cs[i].f0 == 4) = false by simpa using h4, Bool.not_false, Bool.true_and]
   exact Evt.step (fun k => by rw [sound_pool_tiles.c4, if_pos (decide_eq_true (by omega)), if_pos (by omega), if_pos (by omega), if_pos (by omega), gd cs i _ hlt, if_neg (by simpa using h4), i64w (by omega) (by omega)]; rfl) (ih (i + 1) (by omega) (by omega))
theorem tiles_eq (hx : U64 x) (h : Geo (x.length : Int) l) (hlen : x.length ≤ 1048576) : Evt (fun k => sound_pool_tiles.f k x (x.length : Int) l) (tilesV x l) := by
 unfold sound_pool_tiles.f
 refine Evt.bind (Evt.of fun k => table_eq k x l h) ?_
 refine Evt.bind (chunks_eq _ (tab_len hlen h) (tabL_U64 x l hx)) ?_
 have := tiles_l hx h hlen (chV (tabL x l)).2 (Nat.le_trans (chV_len _) (tab_len hlen h)) _ 0 rfl (Nat.zero_le _)
 unfold tilesV tabC
 rw [Bool.and_comm]
 simpa using this
theorem bs_in (hx : U64 x) (h : Geo (x.length : Int) l) (hlen : x.length ≤ 1048576) (ht : tilesV x l = true) : ∀ b ∈ bsV x l, BlkIn (chunksG (x.length : Int) l) b ∧ SzOk b := by
 unfold tilesV rightV at ht
 simp only [Bool.and_eq_true] at ht
 have hlc : (tabC x l).length = (tabL x l).length := by
  have h1 := ht.1.1
  unfold tabC
  unfold chV at h1 ⊢
  split
  ·simp
  ·rename_i hno; rw [if_neg hno] at h1; cases h1
 have := blk_in (tabC x l) (Nat.le_trans (chV_len _) (tab_len hlen h)) (chV_ok _ (tabL_U64 x l hx)) ht.1.2
 rw [hlc, tabL_len x l h] at this
 exact this
theorem bs_len (hlen : x.length ≤ 1048576) (h : Geo (x.length : Int) l) : (bsV x l).length ≤ 600000 := by
 have h1 := H.blkAll_take_len (tabC x l) (tabC x l).length (Nat.le_refl _)
 rw [List.take_length] at h1
 have h2 : (tabC x l).length ≤ (tabL x l).length := chV_len _
 have h3 := tabL_len x l h
 have h4 := h.l
 show (H.blkAll (tabC x l)).length ≤ _
 omega
theorem objs_go (hx : U64 x) (h : Geo (x.length : Int) l) : ∀ (bs : List Blk) (S : List Int), (∀ b ∈ bs, BlkIn (chunksG (x.length : Int) l) b ∧ SzOk b) →
  H.objGo x (x.length : Int) l (wd x 9) S bs = some (objV x l S bs && decide (wd x 9 ≤ 4294967295))
 | [], S, _ => by rw [H.objGo, objV, Bool.true_and]
 | b :: bs, S, hb => by
  have hh := hb b List.mem_cons_self
  rw [H.objGo, objV]
  unfold H.sound_pool_header.f
  rw [header_eq 100 x l b hx h hh.1, Option.bind_some]
  cases hok : (hdV x l b).2.2.2 with
  | false => rw [if_pos rfl, Bool.false_and, Bool.false_and]
  | true =>
   have hw : (Lit.int .u64 (hdV x l b).2.2.1).wf = true := by
    have hh2 : (headT (wd x (placeG (x.length : Int) l b)) (wd x (placeG (x.length : Int) l b + 1))).2.2.2 = true := by
     unfold hdV mkH at hok
     simp only [Bool.and_eq_true] at hok
     exact hok.1
    have e := (headT_size _ _ hh2).2.2.2.2.2
    have hW := wd_Wd x hx (placeG (x.length : Int) l b + 1)
    have e2 : (hdV x l b).2.2.1 = wd x (placeG (x.length : Int) l b + 1) := e
    rw [e2]
    have a := hW.1
    have c := hW.2
    unfold Lit.wf
    simp [IntKind.bits, IntKind.signed, IntKind.min, IntKind.max]
    omega
   rw [if_neg (by decide), if_pos hw, Bool.true_and]
   show (if serV x l b ∈ S then some false else if serV x l b / 4294967296 > wd x 9 then some false else H.objGo x (x.length : Int) l (wd x 9) (S ++ [serV x l b]) bs) = _
   by_cases hS : serV x l b ∈ S
   ·rw [if_pos hS]
    simp [hS]
   ·rw [if_neg hS]
    by_cases he : serV x l b / 4294967296 > wd x 9
    ·rw [if_pos he, show decide (serV x l b / 4294967296 ≤ wd x 9) = false by simpa using he]
     simp
    ·rw [if_neg he, objs_go hx h bs _ (fun c hc => hb c (List.mem_cons_of_mem _ hc)), show decide (serV x l b / 4294967296 ≤ wd x 9) = true by simp; omega]
     simp [hS]
theorem objects_eq (hx : U64 x) (h : Geo (x.length : Int) l) (hlen : x.length ≤ 1048576) (ht : tilesV x l = true) : Evt (fun k => H.sound_pool_objects.f k x (x.length : Int) l) (objsV x l) := by
 have hl := h.l
 have hg : 1 ≤ chunksG (x.length : Int) l := h
 unfold H.sound_pool_objects.f
 refine Evt.congr (f := fun k => ((sound_pool_table.f 100 x (x.length : Int) l).bind fun q => if q.length ≤ 9223372036854775807 then some q else none).bind fun t => (H.tile_Blocks.f k t).bind fun bs => if bs.length ≤ 1000000 then H.objGo x (x.length : Int) l (wd x 9) [] bs else none) ?_ (fun k => by rw [if_pos (by omega)]; rfl)
 rw [table_eq 100 x l h, Option.bind_some, if_pos (by have := tab_len hlen h; omega)]
 refine Evt.bind (Evt.some (tabL x l)) ?_
 have hb := blocks_eq _ (tab_len hlen h) (tabL_U64 x l hx)
 refine Evt.bind (a := bsV x l) (Evt.congr hb fun k => ?_) ?_
 ·unfold tile_Blocks.f
  rw [if_pos (by have := tab_len hlen h; omega)]
 ·refine Evt.congr (Evt.some (objsV x l)) (fun k => ?_)
  rw [if_pos (by have := bs_len hlen h; omega), objs_go hx h _ _ (bs_in hx h hlen ht)]
  rfl
theorem root_l (hx : U64 x) (h : Geo (x.length : Int) l) (r : Int) (bs : List Blk) (hlen : bs.length ≤ 1048576) (hb : ∀ b ∈ bs, BlkIn (chunksG (x.length : Int) l) b ∧ SzOk b) : ∀ (d i : Nat), bs.length - i = d → i ≤ bs.length →
  Evt (fun k => sound_pool_root.c4 k r (bs.length : Int) (i : Int) (x.length : Int) l bs) (r == 0 || (bs.drop i).any fun b => placeG (x.length : Int) l b == r) := by
 have hl := h.l
 intro d
 induction d with
 | zero =>
  intro i hd hi
  obtain rfl : i = bs.length := by omega
  rw [List.drop_length, List.any_nil, Bool.or_false]
  exact Evt.step (f := fun _ => some (r == 0)) (fun k => by rw [sound_pool_root.c4, if_neg (by simp)]) (Evt.some _)
 | succ d ih =>
  intro i hd hi
  have hlt : i < bs.length := by omega
  have hbi := hb _ (List.getElem_mem hlt)
  have hf := place_fit h hbi.1
  have hw := hbi.1.w0
  rw [List.drop_eq_getElem_cons hlt, List.any_cons]
  have hs : ∀ k, sound_pool_root.c4 (k + 1) r (bs.length : Int) (i : Int) (x.length : Int) l bs = if (placeG (x.length : Int) l bs[i] == r) = true then some true else sound_pool_root.c4 k r (bs.length : Int) ((i + 1 : Nat) : Int) (x.length : Int) l bs := fun k => by
   rw [sound_pool_root.c4, if_pos (decide_eq_true (by omega)), if_pos (by omega), if_pos (by omega), if_pos (by omega), gd bs i _ hlt, place_eq k _ l _ h hbi.1, Option.bind_some, u64w (by omega) (by omega), i64w (by omega) (by omega)]
   rfl
  cases hq : placeG (x.length : Int) l bs[i] == r with
  | true => exact Evt.step (f := fun _ => some true) (fun k => by rw [hs, if_pos hq]) ((Evt.some true).eq (by simp))
  | false => exact Evt.step (fun k => by rw [hs, if_neg (by rw [hq]; decide)]) ((ih (i + 1) (by omega) (by omega)).eq (by simp))
theorem root_eq (hx : U64 x) (h : Geo (x.length : Int) l) (hlen : x.length ≤ 1048576) (ht : tilesV x l = true) : Evt (fun k => sound_pool_root.f k x (x.length : Int) l) (rootV x l) := by
 have hl := h.l
 have hg : 1 ≤ chunksG (x.length : Int) l := h
 unfold sound_pool_root.f
 refine Evt.congr (f := fun k => (sound_pool_table.f k x (x.length : Int) l).bind fun y0 => (tile_Blocks.f k y0).bind fun y1 => sound_pool_root.c4 k (wd x 8) (y1.length : Int) 0 (x.length : Int) l y1) ?_ (fun k => by rw [if_pos (by omega)]; rfl)
 refine Evt.bind (Evt.of fun k => table_eq k x l h) ?_
 refine Evt.bind (a := bsV x l) (blocks_eq _ (tab_len hlen h) (tabL_U64 x l hx)) ?_
 have := root_l hx h (wd x 8) (bsV x l) (by have := bs_len hlen h; omega) (bs_in hx h hlen ht) _ 0 rfl (Nat.zero_le _)
 simpa [rootV] using this
noncomputable def openV (x : List Int) : List Int × Int × Int × Bool := if soundV x = true then (x, (x.length : Int), lanesOf x, true) else ([], 0, 0, false)
theorem open_eq (hx : U64 x) (hlen : x.length ≤ 1048576) : Evt (fun k => H.sound_open.f k x) (openV x) := by
 unfold H.sound_open.f
 rw [super_eq x hx hlen]
 refine Evt.bind (Evt.some (superT x)) ?_
 unfold openV soundV superT
 by_cases hh : HeadOk x (lanesOf x)
 ·have hg := hh.1
  rw [if_pos hh, decide_eq_true hh, Bool.true_and]
  refine Evt.congr (f := fun k => H.rest0 k x (x.length : Int) (lanesOf x)) ?_ (fun k => by rw [if_neg (by simp)])
  unfold H.rest0 restV
  refine Evt.bind (marks_eq hx hg) ?_
  cases marksV x (lanesOf x) with
  | false => exact Evt.congr (Evt.some _) (fun k => by rw [if_pos rfl]; rfl)
  | true =>
   refine Evt.congr (f := fun k => H.rest1 k x (x.length : Int) (lanesOf x)) ?_ (fun k => by rw [if_neg (by decide)])
   unfold H.rest1 H.sound_pool_tiles.f
   refine Evt.bind (tiles_eq hx hg hlen) ?_
   cases ht : tilesV x (lanesOf x) with
   | false => exact Evt.congr (Evt.some _) (fun k => by rw [if_pos rfl]; rfl)
   | true =>
    refine Evt.congr (f := fun k => H.rest2 k x (x.length : Int) (lanesOf x)) ?_ (fun k => by rw [if_neg (by decide)])
    unfold H.rest2
    refine Evt.bind (objects_eq hx hg hlen ht) ?_
    cases objsV x (lanesOf x) with
    | false => exact Evt.congr (Evt.some _) (fun k => by rw [if_pos rfl]; rfl)
    | true =>
     refine Evt.congr (f := fun k => H.rest3 k x (x.length : Int) (lanesOf x)) ?_ (fun k => by rw [if_neg (by decide)])
     unfold H.rest3 H.sound_pool_root.f
     refine Evt.bind (root_eq hx hg hlen ht) ?_
     cases rootV x (lanesOf x) with
     | false => exact Evt.congr (Evt.some _) (fun k => by rw [if_pos rfl]; rfl)
     | true => exact Evt.congr (Evt.some _) (fun k => by rw [if_neg (by decide)]; rfl)
 ·rw [if_neg hh, decide_eq_false hh, Bool.false_and]
  exact Evt.congr (Evt.some _) (fun k => by rw [if_pos (by simp)]; rfl)
theorem openE (hx : U64 x) (hlen : x.length ≤ 1048576) : Evt (fun k => sound_open.f k x) (openV x) := by
 unfold sound_open.f
 exact Evt.congr (open_eq hx hlen) (fun k => by rw [if_pos (by omega)])
noncomputable def errV (x : List Int) : Int := if soundV x = true then 0 else 7
theorem sound_eq (hx : U64 x) (hlen : x.length ≤ 1048576) : Evt (fun k => sound_Sound.f k x) (errV x) := by
 unfold sound_Sound.f
 refine Evt.bind (openE hx hlen) ?_
 unfold openV errV
 cases soundV x with
 | true => exact Evt.congr (Evt.some _) (fun k => by simp)
 | false => exact Evt.congr (Evt.some _) (fun k => by simp)
end
end Go.Proofs.YtbbpcbjgekencaaGreatDoor.PS
end
