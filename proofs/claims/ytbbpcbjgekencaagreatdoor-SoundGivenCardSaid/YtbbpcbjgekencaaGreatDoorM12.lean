import Derived.Test.YtbbpcbjgekencaaGreatDoorM11
section
set_option linter.unusedVariables false
set_option linter.unusedSimpArgs false
set_option linter.unusedVariables false
set_option linter.unusedSimpArgs false
namespace Go.Proofs.YtbbpcbjgekencaaGreatDoor.PS
open Go Go.Proofs.YtbbpcbjgekencaaGreatDoor.Q Go.Proofs.YtbbpcbjgekencaaGreatDoor.FT Go.Proofs.YtbbpcbjgekencaaGreatDoor.Ev
abbrev Chk := S114
theorem gd {α : Type} (l : List α) (i : Nat) (z : α) (h : i < l.length) : l.getD (i : Int).toNat z = l[i] := by
 rw [Int.toNat_natCast, List.getD_eq_getElem?_getD, List.getElem?_eq_getElem h]
 rfl
theorem okC_iff (c : Chk) : okC c = true ↔ ((c.f0 = 0 ∨ c.f0 = 3) ∧ c.f1 = 0 ∧ c.f2 = 0 ∧ c.f3 = 0 ∧ c.f4 = 0 ∨ c.f0 = 1 ∧ c.f2 = 0 ∧ c.f3 = 0 ∧ (c.f1 = 0 ∧ c.f4 < 256 ∨ c.f1 = 1 ∧ c.f4 < 16 ∨ c.f1 = 2 ∧ c.f4 < 4) ∨
 c.f0 = 2 ∧ c.f1 = 0 ∧ c.f2 = 0 ∧ c.f4 = 0 ∧ 1 ≤ c.f3 ∧ c.f3 ≤ 8191 ∨ c.f0 = 4 ∧ c.f1 = 0 ∧ c.f4 = 0 ∧ 0 ≤ c.f2 ∧ c.f2 ≤ 63 ∧ 0 ≤ c.f3 ∧ c.f3 ≤ 7) := by
 unfold okC rightC
 rw [decide_eq_true_iff]
def OkC (c : Chk) : Prop := okC c = true ∧ 0 ≤ c.f4
theorem OkC.huge {c : Chk} (h : OkC c) (k : c.f0 = 2) : c.f1 = 0 ∧ c.f2 = 0 ∧ c.f4 = 0 ∧ 1 ≤ c.f3 ∧ c.f3 ≤ 8191 := by have := (okC_iff c).mp h.1; omega
theorem OkC.run {c : Chk} (h : OkC c) (k : c.f0 = 1) : c.f2 = 0 ∧ c.f3 = 0 ∧ (c.f1 = 0 ∧ c.f4 < 256 ∨ c.f1 = 1 ∧ c.f4 < 16 ∨ c.f1 = 2 ∧ c.f4 < 4) := by have := (okC_iff c).mp h.1; omega
theorem OkC.log {c : Chk} (h : OkC c) (k : c.f0 = 4) : c.f1 = 0 ∧ c.f4 = 0 ∧ 0 ≤ c.f2 ∧ c.f2 ≤ 63 ∧ 0 ≤ c.f3 ∧ c.f3 ≤ 7 := by have := (okC_iff c).mp h.1; omega
theorem OkC.range {c : Chk} (h : OkC c) : 0 ≤ c.f0 ∧ c.f0 < 8 ∧ 0 ≤ c.f1 ∧ c.f1 < 4 ∧ 0 ≤ c.f2 ∧ c.f2 < 64 ∧ 0 ≤ c.f3 ∧ c.f3 < 8192 ∧ 0 ≤ c.f4 ∧ c.f4 < 256 := by have := (okC_iff c).mp h.1; have := h.2; omega
theorem decOk_of {w : Int} (h0 : 0 ≤ w) (h : decOk w = true) : OkC (decC w) := by
 unfold decOk at h
 simp only [Bool.and_eq_true] at h
 exact ⟨h.1, by unfold decC; simp only; omega⟩
def chV (l : List Int) : Bool × List Chk := if l.all decOk = true then (true, l.map decC) else (false, [])
def chGo (acc : List Chk) (l : List Int) : Bool × List Chk := if l.all decOk = true then (true, acc ++ l.map decC) else (false, [])
theorem chGo_ok (acc : List Chk) (w : Int) (l : List Int) (h : decOk w = true) : chGo acc (w :: l) = chGo (acc ++ [decC w]) l := by simp [chGo, h]
theorem chGo_no (acc : List Chk) (w : Int) (l : List Int) (h : ¬ decOk w = true) : chGo acc (w :: l) = (false, []) := by simp [chGo, h]
theorem chGo_nil (acc : List Chk) (l : List Int) (h : l = []) : chGo acc l = (true, acc) := by subst h; simp [chGo]
theorem decT_ok {w : Int} (h : decOk w = true) : decT w = ((decC w).f0, (decC w).f1, (decC w).f2, (decC w).f3, (decC w).f4, true) := by unfold decT; rw [if_pos h]
theorem decT_no {w : Int} (h : ¬ decOk w = true) : decT w = (0, 0, 0, 0, 0, false) := by unfold decT; rw [if_neg h]
theorem big_le {a : Nat} (h : a ≤ 1048576) : a + 1 ≤ big := by unfold big; omega
theorem chunks_l (l : List Int) (hl : l.length ≤ 1048576) (hw : U64 l) : ∀ (d i : Nat) (acc : List Chk), l.length - i = d → i ≤ l.length → acc.length = i →
  Evt (fun k => tile_Chunks.c4 k l (l.length : Int) (i : Int) acc) (chGo acc (l.drop i)) := by
 intro d
 induction d with
 | zero =>
  intro i acc hd hi ha
  obtain rfl : i = l.length := by omega
  rw [chGo_nil acc (l.drop l.length) (by simp)]
  exact Evt.step (f := fun _ => some (true, acc)) (fun k => by rw [tile_Chunks.c4, if_neg (by simp)]) (Evt.some _)
 | succ d ih =>
  intro i acc hd hi ha
  have hlt : i < l.length := by omega
  rw [List.drop_eq_getElem_cons hlt]
  by_cases ho : decOk l[i] = true
  ·rw [chGo_ok _ _ _ ho]
   refine Evt.step (f := fun k => tile_Chunks.c4 k l (l.length : Int) ((i + 1 : Nat) : Int) (acc ++ [decC l[i]])) (fun k => ?_) (ih (i + 1) (acc ++ [decC l[i]]) (by omega) (by omega) (by simp [ha]))
   rw [tile_Chunks.c4, if_pos (decide_eq_true (by omega)), if_pos (by omega), if_pos (by omega), gd l i 0 hlt, decode_eq k _ (hw _ (List.getElem_mem hlt)), Option.bind_some, decT_ok ho, if_neg (by simp)]
   rw [if_pos (by rw [List.length_singleton]; exact big_le (by omega)), i64w (by omega) (by omega)]
   rfl
  ·rw [chGo_no _ _ _ ho]
   refine Evt.step (f := fun _ => some (false, [])) (fun k => ?_) (Evt.some _)
   rw [tile_Chunks.c4, if_pos (decide_eq_true (by omega)), if_pos (by omega), if_pos (by omega), gd l i 0 hlt, decode_eq k _ (hw _ (List.getElem_mem hlt)), Option.bind_some, decT_no ho, if_pos (by decide)]
theorem chunks_eq (l : List Int) (hl : l.length ≤ 1048576) (hw : U64 l) : Evt (fun k => tile_Chunks.f k l) (chV l) := by
 have h := chunks_l l hl hw l.length 0 [] (by omega) (by omega) rfl
 simpa [tile_Chunks.f, chV, chGo] using h
theorem refChunksT_l (l : List Int) (hl : l.length ≤ 1048576) (hw : U64 l) : ∀ (d i : Nat) (acc : List Chk), l.length - i = d → i ≤ l.length → acc.length = i →
  Evt (fun k => r11_Chunks.c4 k l (i : Int) acc) (chGo acc (l.drop i)) := by
 intro d
 induction d with
 | zero =>
  intro i acc hd hi ha
  obtain rfl : i = l.length := by omega
  rw [chGo_nil acc (l.drop l.length) (by simp)]
  exact Evt.step (f := fun _ => some (true, acc)) (fun k => by rw [r11_Chunks.c4, if_neg (by simp)]) (Evt.some _)
 | succ d ih =>
  intro i acc hd hi ha
  have hlt : i < l.length := by omega
  have hr : ∀ k, r10_Decode.f (k + 21) l[i] = some (decT l[i]) := fun k => refDecode_eq k _ (hw _ (List.getElem_mem hlt))
  have hE : Evt (fun k => r10_Decode.f k l[i]) (decT l[i]) := ⟨21, fun k hk => by obtain ⟨j, rfl⟩ : ∃ j, k = j + 21 := ⟨k - 21, by omega⟩; exact hr j⟩
  rw [List.drop_eq_getElem_cons hlt]
  refine Evt.step (f := fun k => (r10_Decode.f k l[i]).bind fun y0 => (if (!y0.snd.snd.snd.snd.snd) = true then (some (false, [])) else (if acc.length + [S114.mk y0.fst y0.snd.fst y0.snd.snd.fst y0.snd.snd.snd.fst y0.snd.snd.snd.snd.fst].length ≤ big then (r11_Chunks.c4 k l (IntKind.i64.wrap ((i : Int) + 1)) (acc ++ [S114.mk y0.fst y0.snd.fst y0.snd.snd.fst y0.snd.snd.snd.fst y0.snd.snd.snd.snd.fst])) else none))) (fun k => ?_) (Evt.bind hE ?_)
  ·rw [r11_Chunks.c4, if_pos (decide_eq_true (by omega)), if_pos (by omega), if_pos (by omega), gd l i 0 hlt]
  by_cases ho : decOk l[i] = true
  ·rw [chGo_ok _ _ _ ho]
   refine Evt.congr (ih (i + 1) (acc ++ [decC l[i]]) (by omega) (by omega) (by simp [ha])) (fun k => ?_)
   rw [decT_ok ho, if_neg (by simp), if_pos (by rw [List.length_singleton]; exact big_le (by omega)), i64w (by omega) (by omega)]
   rfl
  ·rw [chGo_no _ _ _ ho]
   refine Evt.congr (Evt.some (false, [])) (fun k => ?_)
   rw [decT_no ho, if_pos (by decide)]
theorem refChunksT_eq (l : List Int) (hl : l.length ≤ 1048576) (hw : U64 l) : Evt (fun k => r11_Chunks.f k l) (chV l) := by
 have h := refChunksT_l l hl hw l.length 0 [] (by omega) (by omega) rfl
 simpa [r11_Chunks.f, chV, chGo] using h
theorem chV_len (l : List Int) : (chV l).2.length ≤ l.length := by unfold chV; split <;> simp
theorem chV_ok (l : List Int) (hw : U64 l) : ∀ c ∈ (chV l).2, OkC c := by
 intro c hc
 unfold chV at hc
 split at hc
 ·rename_i h
  simp only [List.mem_map] at hc
  obtain ⟨w, hw', rfl⟩ := hc
  exact decOk_of (hw w hw').1 (List.all_eq_true.mp h w hw')
 ·simp at hc
theorem chV_no {l : List Int} (h : (chV l).1 = false) : (chV l).2 = [] := by unfold chV at h ⊢; split <;> simp_all
def rightGo : Int → List Chk → Bool
 | T, [] => T == 0
 | T, c :: cs => if c.f0 = 3 ↔ T > 0 then (if c.f0 = 3 then rightGo (T - 1) cs else if c.f0 = 2 then rightGo (c.f3 - 1) cs else rightGo T cs) else false
theorem beq3 (x T : Int) : ((!(x == 3) == decide (T > 0)) = true) ↔ ¬ (x = 3 ↔ T > 0) := by
 by_cases a : x = 3 <;> by_cases b : T > 0 <;> simp [a, b]
theorem right_l (cs : List Chk) (hl : cs.length ≤ 1048576) (hok : ∀ c ∈ cs, OkC c) : ∀ (d i : Nat) (T : Int), cs.length - i = d → i ≤ cs.length → 0 ≤ T → T ≤ 8192 →
  Evt (fun k => tile_Right.c5 k true T (cs.length : Int) (i : Int) cs) (rightGo T (cs.drop i)) := by
 intro d
 induction d with
 | zero =>
  intro i T hd hi h0 h1
  obtain rfl : i = cs.length := by omega
  refine Evt.step (f := fun _ => some (T == 0)) (fun k => by rw [tile_Right.c5, if_neg (by simp), if_pos rfl]) ((Evt.some _).eq (by simp [rightGo]))
 | succ d ih =>
  intro i T hd hi h0 h1
  have hlt : i < cs.length := by omega
  have hc := hok _ (List.getElem_mem hlt)
  rw [List.drop_eq_getElem_cons hlt, rightGo]
  by_cases hm : cs[i].f0 = 3 ↔ T > 0
  ·rw [if_pos hm]
   have hm' : ¬ ((!(cs[i].f0 == 3) == decide (T > 0)) = true) := by rw [beq3]; exact fun h => h hm
   have nx : ∀ T' : Int, 0 ≤ T' → T' ≤ 8192 → Evt (fun k => tile_Right.c8 k true T' (cs.length : Int) (i : Int) cs) (rightGo T' (cs.drop (i + 1))) := fun T' a b =>
    Evt.step (f := fun k => tile_Right.c5 k true T' (cs.length : Int) ((i + 1 : Nat) : Int) cs) (fun k => by rw [tile_Right.c8, i64w (by omega) (by omega)]; rfl) (ih (i + 1) T' (by omega) (by omega) a b)
   by_cases h3 : cs[i].f0 = 3
   ·have hp := hm.1 h3
    rw [if_pos h3]
    refine Evt.step (fun k => ?_) (nx (T - 1) (by omega) (by omega))
    rw [tile_Right.c5, if_pos (decide_eq_true (by omega)), if_pos (by omega), if_pos (by omega), if_pos (by omega), gd cs i _ hlt, if_neg hm', if_pos (by simpa using h3), i64w (by omega) (by omega)]
   ·rw [if_neg h3]
    by_cases h2 : cs[i].f0 = 2
    ·have hh := hc.huge h2
     rw [if_pos h2]
     refine Evt.step (fun k => ?_) (nx (cs[i].f3 - 1) (by omega) (by omega))
     rw [tile_Right.c5, if_pos (decide_eq_true (by omega)), if_pos (by omega), if_pos (by omega), if_pos (by omega), gd cs i _ hlt, if_neg hm', if_neg (by simpa using h3), if_pos (by simpa using h2), i64w (by omega) (by omega)]
    ·rw [if_neg h2]
     refine Evt.step (fun k => ?_) (nx T h0 h1)
     rw [tile_Right.c5, if_pos (decide_eq_true (by omega)), if_pos (by omega), if_pos (by omega), if_pos (by omega), gd cs i _ hlt, if_neg hm', if_neg (by simpa using h3), if_neg (by simpa using h2)]
  ·rw [if_neg hm]
   refine Evt.step (f := fun _ => some false) (fun k => ?_) (Evt.some _)
   rw [tile_Right.c5, if_pos (decide_eq_true (by omega)), if_pos (by omega), if_pos (by omega), if_pos (by omega), gd cs i _ hlt, if_pos (by rw [beq3]; exact hm)]
def rightV (l : List Int) : Bool := (chV l).1 && rightGo 0 (chV l).2
theorem right_eqT (l : List Int) (hl : l.length ≤ 1048576) (hw : U64 l) : Evt (fun k => tile_Right.f k l) (rightV l) := by
 unfold tile_Right.f
 refine Evt.bind (chunks_eq l hl hw) ?_
 unfold rightV
 cases h : (chV l).1 with
 | true =>
  rw [Bool.true_and]
  have := right_l (chV l).2 (Nat.le_trans (chV_len l) hl) (chV_ok l hw) (chV l).2.length 0 0 (by omega) (by omega) (by omega) (by omega)
  simpa using this
 | false =>
  rw [chV_no h, Bool.false_and]
  exact Evt.step (f := fun _ => some false) (fun k => by rw [tile_Right.c5, if_neg (by simp), if_neg (by simp)]) (Evt.some _)
def isTail (cs : List Chk) (i : Nat) : Prop := ∃ k, ∃ h : k < cs.length, k < i ∧ cs[k].f0 = 2 ∧ (i : Int) < k + cs[k].f3
def tailFrom (cs : List Chk) (i p : Nat) : Prop := ∃ k, ∃ h : k < cs.length, p ≤ k ∧ k < i ∧ cs[k].f0 = 2 ∧ (i : Int) < k + cs[k].f3
theorem tail_l (cs : List Chk) (hl : cs.length ≤ 1048576) (hok : ∀ c ∈ cs, OkC c) (i : Nat) (hi : i ≤ cs.length) (b : Bool) : ∀ (d p : Nat), i - p = d → p ≤ i →
  (b = true ↔ tailFrom cs i p) → Evt (fun k => r11_tail.c3 k cs (i : Int) (p : Int)) b := by
 intro d
 induction d with
 | zero =>
  intro p hd hp hb
  have : b = false := by
   cases b with
   | false => rfl
   | true => obtain ⟨k, h, h1, h2, _⟩ := hb.1 rfl; omega
  subst this
  exact Evt.step (f := fun _ => some false) (fun k => by rw [r11_tail.c3, if_neg (by simp; omega)]) (Evt.some _)
 | succ d ih =>
  intro p hd hp hb
  have hlt : p < cs.length := by omega
  have hr := (hok _ (List.getElem_mem hlt)).range
  by_cases h2 : cs[p].f0 = 2 ∧ (i : Int) < p + cs[p].f3
  ·have : b = true := hb.2 ⟨p, hlt, by omega, by omega, h2.1, h2.2⟩
   subst this
   refine Evt.step (f := fun _ => some true) (fun k => ?_) (Evt.some _)
   rw [r11_tail.c3, if_pos (decide_eq_true (by omega)), if_pos (by omega), if_pos (by omega), gd cs p _ hlt, if_pos (by simpa using h2.1), if_pos (by omega), if_pos (by omega), i64w (by omega) (by omega), if_pos (decide_eq_true h2.2)]
  ·refine Evt.step (f := fun k => r11_tail.c3 k cs (i : Int) ((p + 1 : Nat) : Int)) (fun k => ?_) (ih (p + 1) (by omega) (by omega) (hb.trans ?_))
   ·rw [r11_tail.c3, if_pos (decide_eq_true (by omega)), if_pos (by omega), if_pos (by omega), gd cs p _ hlt]
    by_cases h0 : cs[p].f0 = 2
    ·rw [if_pos (by simpa using h0), if_pos (by omega), if_pos (by omega), i64w (x := (p : Int) + cs[p].f3) (by omega) (by omega), if_neg (by simp; omega), i64w (by omega) (by omega)]; rfl
    ·rw [if_neg (by simpa using h0), i64w (by omega) (by omega)]; rfl
   ·constructor
    ·rintro ⟨k, h, h3, h4, h5, h6⟩
     refine ⟨k, h, ?_, h4, h5, h6⟩
     rcases Nat.lt_or_ge p k with hx | hx
     ·omega
     ·obtain rfl : k = p := by omega
      exact absurd ⟨h5, h6⟩ h2
    ·rintro ⟨k, h, h3, h4, h5, h6⟩
     exact ⟨k, h, by omega, h4, h5, h6⟩
theorem tail_eq (cs : List Chk) (hl : cs.length ≤ 1048576) (hok : ∀ c ∈ cs, OkC c) (i : Nat) (hi : i ≤ cs.length) (b : Bool) (hb : b = true ↔ isTail cs i) : Evt (fun k => r11_tail.f k cs (i : Int)) b := by
 have := tail_l cs hl hok i hi b i 0 (by omega) (by omega) (hb.trans ?_)
 ·simpa [r11_tail.f] using this
 ·constructor
  ·rintro ⟨k, h, h1, h2⟩; exact ⟨k, h, by omega, h1, h2⟩
  ·rintro ⟨k, h, _, h1, h2⟩; exact ⟨k, h, h1, h2⟩
def rightAt (cs : List Chk) (i : Nat) : Prop := ∃ h : i < cs.length, (isTail cs i ↔ cs[i].f0 = 3) ∧ (cs[i].f0 = 2 → i + cs[i].f3 ≤ cs.length)
theorem refRight_l (cs : List Chk) (hl : cs.length ≤ 1048576) (hok : ∀ c ∈ cs, OkC c) (b : Bool) : ∀ (d i : Nat), cs.length - i = d → i ≤ cs.length →
  (b = true ↔ ∀ k, i ≤ k → k < cs.length → rightAt cs k) → Evt (fun k => r11_Right.c7 k (i : Int) cs) b := by
 intro d
 induction d with
 | zero =>
  intro i hd hi hb
  obtain rfl : i = cs.length := by omega
  have : b = true := hb.2 (fun k h1 h2 => by omega)
  subst this
  exact Evt.step (f := fun _ => some true) (fun k => by rw [r11_Right.c7, if_neg (by simp)]) (Evt.some _)
 | succ d ih =>
  intro i hd hi hb
  have hlt : i < cs.length := by omega
  have hr := (hok _ (List.getElem_mem hlt)).range
  obtain ⟨t, ht⟩ : ∃ t : Bool, t = true ↔ isTail cs i := by
   by_cases h : isTail cs i
   ·exact ⟨true, by simp [h]⟩
   ·exact ⟨false, by simp [h]⟩
  have hte := tail_eq cs hl hok i hi t ht
  refine Evt.step (fun k => by rw [r11_Right.c7, if_pos (decide_eq_true (by omega))]) (Evt.bind hte ?_)
  have hm : ((!t == (cs[i].f0 == 3)) = true) ↔ ¬ (isTail cs i ↔ cs[i].f0 = 3) := by
   rw [← ht]
   cases t <;> by_cases h3 : cs[i].f0 = 3 <;> simp [h3]
  by_cases h1 : (isTail cs i ↔ cs[i].f0 = 3)
  ·by_cases h2 : cs[i].f0 = 2 → i + cs[i].f3 ≤ cs.length
   ·refine Evt.congr (f := fun k => r11_Right.c7 k ((i + 1 : Nat) : Int) cs) (ih (i + 1) (by omega) (by omega) (hb.trans ?_)) (fun k => ?_)
    ·constructor
     ·intro h k h3 h4; exact h k (by omega) h4
     ·intro h k h3 h4
      rcases Nat.lt_or_ge i k with hx | hx
      ·exact h k (by omega) h4
      ·obtain rfl : k = i := by omega
       exact ⟨hlt, h1, h2⟩
    ·rw [if_pos (by omega), if_pos (by omega), if_pos (by omega), gd cs i _ hlt, if_neg (by rw [hm]; exact fun h => h h1), if_pos (by omega), if_pos (by omega), if_pos (by omega)]
     by_cases h0 : cs[i].f0 = 2
     ·rw [if_pos (by simpa using h0), if_pos (by omega), if_pos (by omega), if_pos (by omega), i64w (x := (i : Int) + cs[i].f3) (by omega) (by omega), if_neg (by simp; have := h2 h0; omega), i64w (by omega) (by omega)]; rfl
     ·rw [if_neg (by simpa using h0), i64w (by omega) (by omega)]; rfl
   ·have : b = false := by
     cases b with
     | false => rfl
     | true => obtain ⟨_, _, h⟩ := hb.1 rfl i (by omega) hlt; exact absurd h h2
    subst this
    have h0 : cs[i].f0 = 2 := by
     by_cases h : cs[i].f0 = 2
     ·exact h
     ·exact absurd (fun h' => absurd h' h) h2
    have h3 : ¬ (i + cs[i].f3 ≤ cs.length) := fun h => h2 (fun _ => h)
    exact Evt.congr (Evt.some false) (fun k => by rw [if_pos (by omega), if_pos (by omega), if_pos (by omega), gd cs i _ hlt, if_neg (by rw [hm]; exact fun h => h h1), if_pos (by omega), if_pos (by omega), if_pos (by omega), if_pos (by simpa using h0), if_pos (by omega), if_pos (by omega), if_pos (by omega), i64w (x := (i : Int) + cs[i].f3) (by omega) (by omega), if_pos (decide_eq_true (by omega))])
  ·have : b = false := by
    cases b with
    | false => rfl
    | true => obtain ⟨_, h, _⟩ := hb.1 rfl i (by omega) hlt; exact absurd h h1
   subst this
   exact Evt.congr (Evt.some false) (fun k => by rw [if_pos (by omega), if_pos (by omega), if_pos (by omega), gd cs i _ hlt, if_pos (hm.2 h1)])
def reach (cs : List Chk) (i : Nat) (T : Int) : Prop := ∃ k, ∃ h : k < cs.length, k < i ∧ cs[k].f0 = 2 ∧ k + cs[k].f3 = i + T
theorem rightGo_iff (cs : List Chk) (hok : ∀ c ∈ cs, OkC c) : ∀ (d i : Nat) (T : Int), cs.length - i = d → i ≤ cs.length → 0 ≤ T →
  (∀ k, ∀ h : k < cs.length, k < i → cs[k].f0 = 2 → k + cs[k].f3 ≤ i + T) → (T > 0 → reach cs i T) →
  (rightGo T (cs.drop i) = true ↔ (∀ k, i ≤ k → k < cs.length → rightAt cs k) ∧ ∀ k, ∀ h : k < cs.length, k < i → cs[k].f0 = 2 → k + cs[k].f3 ≤ cs.length) := by
 intro d
 induction d with
 | zero =>
  intro i T hd hi hT h1 h2
  obtain rfl : i = cs.length := by omega
  rw [List.drop_length, rightGo]
  constructor
  ·intro h
   have : T = 0 := by simpa using h
   subst this
   exact ⟨fun k h3 h4 => by omega, fun k h3 h4 h5 => by have := h1 k h3 h4 h5; omega⟩
  ·rintro ⟨_, h⟩
   by_cases hx : 0 < T
   ·obtain ⟨k, h3, h4, h5, h6⟩ := h2 hx
    have := h k h3 h4 h5
    omega
   ·have : T = 0 := by omega
    simp [this]
 | succ d ih =>
  intro i T hd hi hT h1 h2
  have hlt : i < cs.length := by omega
  have hc := hok _ (List.getElem_mem hlt)
  rw [List.drop_eq_getElem_cons hlt, rightGo]
  have htl : isTail cs i ↔ T > 0 := by
   constructor
   ·rintro ⟨k, h, h3, h4, h5⟩
    have := h1 k h h3 h4
    omega
   ·intro h
    obtain ⟨k, h3, h4, h5, h6⟩ := h2 h
    exact ⟨k, h3, h4, h5, by omega⟩
  have hm : (cs[i].f0 = 3 ↔ T > 0) ↔ (isTail cs i ↔ cs[i].f0 = 3) := by
   rw [htl]
   exact ⟨fun h => h.symm, fun h => h.symm⟩
  by_cases hx : (isTail cs i ↔ cs[i].f0 = 3)
  ·rw [if_pos (hm.2 hx)]
   have one : ∀ T' : Int, (cs[i].f0 = 2 → i + cs[i].f3 = i + 1 + T') → ((∀ k, i + 1 ≤ k → k < cs.length → rightAt cs k) ∧ (∀ k, ∀ h : k < cs.length, k < i + 1 → cs[k].f0 = 2 → k + cs[k].f3 ≤ cs.length) ↔
     (∀ k, i ≤ k → k < cs.length → rightAt cs k) ∧ ∀ k, ∀ h : k < cs.length, k < i → cs[k].f0 = 2 → k + cs[k].f3 ≤ cs.length) := by
    intro T' _
    constructor
    ·rintro ⟨ha, hb⟩
     refine ⟨fun k h3 h4 => ?_, fun k h3 h4 => hb k h3 (by omega)⟩
     rcases Nat.lt_or_ge i k with hy | hy
     ·exact ha k hy h4
     ·obtain rfl : k = i := by omega
      exact ⟨hlt, hx, hb k hlt (by omega)⟩
    ·rintro ⟨ha, hb⟩
     refine ⟨fun k h3 h4 => ha k (by omega) h4, fun k h3 h4 h5 => ?_⟩
     rcases Nat.lt_or_ge k i with hy | hy
     ·exact hb k h3 hy h5
     ·obtain rfl : k = i := by omega
      obtain ⟨_, _, h⟩ := ha k (by omega) h3
      exact h h5
   by_cases h3 : cs[i].f0 = 3
   ·have hp := htl.1 (hx.2 h3)
    rw [if_pos h3]
    refine (ih (i + 1) (T - 1) (by omega) (by omega) (by omega) ?_ ?_).trans (one (T - 1) (by omega))
    ·intro k h4 h5 h6
     rcases Nat.lt_or_ge k i with hy | hy
     ·have := h1 k h4 hy h6; omega
     ·obtain rfl : k = i := by omega
      omega
    ·intro h4
     obtain ⟨k, h5, h6, h7, h8⟩ := h2 hp
     exact ⟨k, h5, by omega, h7, by omega⟩
   ·rw [if_neg h3]
    have hz : ¬ T > 0 := fun h => h3 (hx.1 (htl.2 h))
    by_cases h4 : cs[i].f0 = 2
    ·have hh := hc.huge h4
     rw [if_pos h4]
     refine (ih (i + 1) (cs[i].f3 - 1) (by omega) (by omega) (by omega) ?_ ?_).trans (one (cs[i].f3 - 1) (by omega))
     ·intro k h5 h6 h7
      rcases Nat.lt_or_ge k i with hy | hy
      ·have := h1 k h5 hy h7; omega
      ·obtain rfl : k = i := by omega
       omega
     ·intro _
      exact ⟨i, hlt, by omega, h4, by omega⟩
    ·rw [if_neg h4]
     refine (ih (i + 1) T (by omega) (by omega) (by omega) ?_ ?_).trans (one T (fun h => absurd h h4))
     ·intro k h5 h6 h7
      rcases Nat.lt_or_ge k i with hy | hy
      ·have := h1 k h5 hy h7; omega
      ·obtain rfl : k = i := by omega
       exact absurd h7 h4
     ·intro h; exact absurd h hz
  ·rw [if_neg (fun h => hx (hm.1 h))]
   constructor
   ·intro h; cases h
   ·rintro ⟨h, _⟩
    obtain ⟨_, h', _⟩ := h i (by omega) hlt
    exact absurd h' hx
theorem refRight_eqT (l : List Int) (hl : l.length ≤ 1048576) (hw : U64 l) : Evt (fun k => r11_Right.f k l) (rightV l) := by
 unfold r11_Right.f
 refine Evt.bind (refChunksT_eq l hl hw) ?_
 unfold rightV
 cases h : (chV l).1 with
 | true =>
  rw [Bool.true_and]
  refine Evt.congr (f := fun k => r11_Right.c7 k 0 (chV l).2) ?_ (fun k => by rw [if_neg (by simp)])
  have := refRight_l (chV l).2 (Nat.le_trans (chV_len l) hl) (chV_ok l hw) (rightGo 0 (chV l).2) (chV l).2.length 0 (by omega) (by omega) ?_
  ·simpa using this
  ·have h := rightGo_iff (chV l).2 (chV_ok l hw) (chV l).2.length 0 0 (by omega) (by omega) (by omega) (fun k _ h => by omega) (fun h => by omega)
   rw [List.drop_zero] at h
   rw [h]
   exact ⟨fun h => h.1, fun h => ⟨h, fun k _ h => by omega⟩⟩
 | false =>
  rw [Bool.false_and]
  exact Evt.congr (Evt.some false) (fun k => by rw [if_pos (by simp)])
end Go.Proofs.YtbbpcbjgekencaaGreatDoor.PS
end
section
set_option linter.unusedVariables false
set_option linter.unusedSimpArgs false
set_option linter.unusedVariables false
set_option linter.unusedSimpArgs false
namespace Go.Proofs.YtbbpcbjgekencaaGreatDoor.PS
open Go Go.Proofs.YtbbpcbjgekencaaGreatDoor.Q Go.Proofs.YtbbpcbjgekencaaGreatDoor.FT Go.Proofs.YtbbpcbjgekencaaGreatDoor.Ev
abbrev Blk := S61
noncomputable abbrev blks (l : List Chk) : List Blk := H.blkAll l
theorem w64 {x : Int} (h : -9223372036854775808 ≤ x ∧ x ≤ 9223372036854775807) : Go.RowKit.wrap64 x = x := by unfold Go.RowKit.wrap64; omega
theorem blocks_eq (l : List Int) (hl : l.length ≤ 1048576) (hw : U64 l) : Evt (fun k => tile_Blocks.f k l) (blks (chV l).2) := by
 unfold tile_Blocks.f H.tile_Blocks.f H.tile_Chunks.f
 refine Evt.congr (f := fun k => ((tile_Chunks.f k l).map fun q => (q.2, q.1)).bind fun x => if x.1.length ≤ 1048576 then some (H.blkAll x.1) else none) ?_ (fun k => by rw [if_pos (by omega)])
 refine Evt.bind (a := ((chV l).2, (chV l).1)) ?_ ?_
 ·obtain ⟨K, hK⟩ := chunks_eq l hl hw
  exact ⟨K, fun k hk => by have h : tile_Chunks.f k l = some (chV l) := hK k hk; show Option.map _ (tile_Chunks.f k l) = _; rw [h]; rfl⟩
 ·exact Evt.congr (Evt.some _) (fun k => by rw [if_pos (Nat.le_trans (chV_len l) hl)])
theorem live_bit : ∀ b : Fin 256, ∀ j : Fin 8, ((Int.tmod (IntKind.u64.wrap (Int.tdiv ((b.val : Nat) : Int) ((2 ^ j.val : Nat) : Int))) 2) == 1) = H.bitAt ((b.val : Nat) : Int) j.val := by decide +kernel
theorem power_at (k : Nat) : ∀ j : Nat, j < 8 → r10_power.f (k + 20) (j : Int) = some ((2 ^ j : Nat) : Int) := by
 intro j hj
 rcases (show j = 0 ∨ j = 1 ∨ j = 2 ∨ j = 3 ∨ j = 4 ∨ j = 5 ∨ j = 6 ∨ j = 7 by omega) with rfl | rfl | rfl | rfl | rfl | rfl | rfl | rfl <;> kernel_rfl
theorem live_eq (k : Nat) (a0 a1 a2 a3 b : Int) (hb : 0 ≤ b ∧ b < 256) (j : Nat) (h : j < 8) : r10_Live.f (k + 20) a0 a1 a2 a3 b (j : Int) = some (H.bitAt b j) := by
 unfold r10_Live.f
 have h2 := Nat.two_pow_pos j
 obtain ⟨n, rfl⟩ : ∃ n : Nat, b = (n : Int) := ⟨b.toNat, by omega⟩
 rw [power_at k j h, Option.bind_some, if_neg (by omega)]
 exact congrArg some (live_bit ⟨n, by omega⟩ ⟨j, h⟩)
theorem Evt.at {α : Type} {g : Nat → Option α} {r : α} (n : Nat) (h : ∀ k, g (k + n) = Option.some r) : Evt g r :=
 ⟨n, fun k hk => by obtain ⟨j, rfl⟩ : ∃ j, k = j + n := ⟨k - n, by omega⟩; exact h j⟩
theorem many_eqE (c : Int) (h : c = 0 ∨ c = 1 ∨ c = 2) : Evt (fun k => r09_Many.f k c) (H.manyW c) :=
 Evt.at 20 fun k => by rw [many_ref k c h]; rcases h with rfl | rfl | rfl <;> rfl
theorem big_le2 {a : Nat} (h : a ≤ 1073741824) : a + 1 ≤ big := by unfold big; omega
theorem refBlocks_in (cs : List Chk) (hl : cs.length ≤ 1048576) (i : Nat) (hi : i < cs.length) (hc : OkC cs[i]) (acc : List Blk) (ha : acc.length ≤ 104857600) {r : List Blk}
  (h0 : Evt (fun k => r11_Blocks.c5 k ((i + 1 : Nat) : Int) cs (acc ++ (H.onesI cs[i].f4 (H.manyW cs[i].f1)).map (H.mkB i cs[i].f1))) r) :
  Evt (fun k => r11_Blocks.c12 k (i : Int) 0 cs acc) r := by
 have hw1 : IntKind.i64.wrap ((i : Int) + 1) = ((i + 1 : Nat) : Int) := i64w (by omega) (by omega)
 by_cases hk : cs[i].f0 = 1
 ·have hrun := hc.run hk
  have hb4 := hc.2
  obtain ⟨M, hM, hM8⟩ : ∃ M : Nat, H.manyW cs[i].f1 = (M : Int) ∧ M ≤ 8 := by
   rcases hrun.2.2 with h | h | h
   ·exact ⟨8, by rw [h.1]; decide, by omega⟩
   ·exact ⟨4, by rw [h.1]; decide, by omega⟩
   ·exact ⟨2, by rw [h.1]; decide, by omega⟩
  have hb : 0 ≤ cs[i].f4 ∧ cs[i].f4 < 256 := by omega
  have hmany := many_eqE cs[i].f1 (by omega)
  have hones : H.onesI cs[i].f4 (H.manyW cs[i].f1) = ((List.range M).filter (H.bitAt cs[i].f4)).map fun (k : Nat) => (k : Int) := by
   unfold H.onesI H.ones
   rw [hM]
   congr 3
   omega
  rw [hones, List.map_map] at h0
  have key : ∀ (d j : Nat), M - j = d → j ≤ M → Evt (fun k => r11_Blocks.c12 k (i : Int) (j : Int) cs (acc ++ ((List.range j).filter (H.bitAt cs[i].f4)).map (H.mkB i cs[i].f1 ∘ fun (k : Nat) => (k : Int)))) r := by
   intro d
   induction d with
   | zero =>
    intro j hd hj
    obtain rfl : j = M := by omega
    refine Evt.step (fun k => by rw [r11_Blocks.c12, if_pos (by omega), if_pos (by omega), if_pos (by omega), gd cs i _ hi, if_pos (by simpa using hk), if_pos (by omega), if_pos (by omega), if_pos (by omega)]) ?_
    refine Evt.bind hmany ?_
    exact Evt.congr h0 (fun k => by rw [if_neg (by rw [hM]; simp), hw1])
   | succ d ih =>
    intro j hd hj
    have h1 := ih (j + 1) (by omega) (by omega)
    rw [List.range_succ, List.filter_append, List.map_append, ← List.append_assoc] at h1
    have hlen : (acc ++ ((List.range j).filter (H.bitAt cs[i].f4)).map (H.mkB i cs[i].f1 ∘ fun (k : Nat) => (k : Int))).length ≤ 104857608 := by
     rw [List.length_append, List.length_map]
     have := List.length_filter_le (H.bitAt cs[i].f4) (List.range j)
     rw [List.length_range] at this
     omega
    generalize (acc ++ ((List.range j).filter (H.bitAt cs[i].f4)).map (H.mkB i cs[i].f1 ∘ fun (k : Nat) => (k : Int))) = A at h1 hlen ⊢
    refine Evt.step (fun k => by rw [r11_Blocks.c12, if_pos (by omega), if_pos (by omega), if_pos (by omega), gd cs i _ hi, if_pos (by simpa using hk), if_pos (by omega), if_pos (by omega), if_pos (by omega)]) ?_
    refine Evt.bind hmany ?_
    have hlive : Evt (fun k => r10_Live.f k cs[i].f0 cs[i].f1 cs[i].f2 cs[i].f3 cs[i].f4 (j : Int)) (H.bitAt cs[i].f4 j) := Evt.at 20 fun k => live_eq k _ _ _ _ _ hb j (by omega)
    have hwj : IntKind.i64.wrap ((j : Int) + 1) = ((j + 1 : Nat) : Int) := i64w (by omega) (by omega)
    refine Evt.congr (f := fun k => (r10_Live.f k cs[i].f0 cs[i].f1 cs[i].f2 cs[i].f3 cs[i].f4 (j : Int)).bind fun y2 => (if y2 = true then (if 0 ≤ (i : Int) then (if (i : Int) < (cs.length : Int) then (if (i : Int).toNat < cs.length then ((r09_Block.f k cs[i].f1).bind fun y3 => (if A.length + [S61.mk (i : Int) (j : Int) y3].length ≤ big then (r11_Blocks.c15 k (i : Int) (j : Int) cs (A ++ [S61.mk (i : Int) (j : Int) y3])) else none)) else none) else none) else none) else (r11_Blocks.c15 k (i : Int) (j : Int) cs A))) ?_ (fun k => by rw [if_pos (by rw [hM]; simp; omega), if_pos (by omega), if_pos (by omega), if_pos (by omega)])
    refine Evt.bind hlive ?_
    cases hbit : H.bitAt cs[i].f4 j with
    | true =>
     refine Evt.congr (f := fun k => r11_Blocks.c15 k (i : Int) (j : Int) cs (A ++ [H.mkB i cs[i].f1 (j : Int)])) ?_ (fun k => by
      rw [if_pos rfl, if_pos (by omega), if_pos (by omega), if_pos (by omega), blk09, Option.bind_some, if_pos (by rw [List.length_singleton]; exact big_le2 (by omega))]
      rfl)
     refine Evt.step (f := fun k => r11_Blocks.c12 k (i : Int) ((j + 1 : Nat) : Int) cs (A ++ [H.mkB i cs[i].f1 (j : Int)])) (fun k => by rw [r11_Blocks.c15, hwj]) ?_
     simpa [hbit] using h1
    | false =>
     refine Evt.congr (f := fun k => r11_Blocks.c15 k (i : Int) (j : Int) cs A) ?_ (fun k => by rw [if_neg (by decide)])
     refine Evt.step (f := fun k => r11_Blocks.c12 k (i : Int) ((j + 1 : Nat) : Int) cs A) (fun k => by rw [r11_Blocks.c15, hwj]) ?_
     simpa [hbit] using h1
  have h := key M 0 (by omega) (by omega)
  simpa using h
 ·have hnone : H.onesI cs[i].f4 (H.manyW cs[i].f1) = [] := by
   have h4 : cs[i].f4 = 0 := by have := (okC_iff _).mp hc.1; omega
   unfold H.onesI H.ones
   rw [List.map_eq_nil_iff, List.filter_eq_nil_iff]
   intro x hx
   rw [h4]
   unfold H.bitAt
   rw [Int.zero_ediv]
   decide
  rw [hnone, List.map_nil, List.append_nil] at h0
  refine Evt.step (fun k => ?_) h0
  rw [r11_Blocks.c12, if_pos (by omega), if_pos (by omega), if_pos (by omega), gd cs i _ hi, if_neg (by simpa using hk), hw1]
theorem refBlocks_l (cs : List Chk) (hl : cs.length ≤ 1048576) (hok : ∀ c ∈ cs, OkC c) : ∀ (d i : Nat), cs.length - i = d → i ≤ cs.length →
  Evt (fun k => r11_Blocks.c5 k (i : Int) cs (blks (cs.take i))) (blks cs) := by
 intro d
 induction d with
 | zero =>
  intro i hd hi
  obtain rfl : i = cs.length := by omega
  rw [List.take_length]
  exact Evt.step (f := fun _ => some (blks cs)) (fun k => by rw [r11_Blocks.c5, if_neg (by simp)]) (Evt.some _)
 | succ d ih =>
  intro i hd hi
  have hlt : i < cs.length := by omega
  have hr := (hok _ (List.getElem_mem hlt)).range
  have h := ih (i + 1) (by omega) (by omega)
  unfold blks at h
  rw [H.blkAll_take cs i hlt] at h
  unfold H.blkOne at h
  rw [← List.append_assoc] at h
  have hlen : (blks (cs.take i)).length ≤ 9 * i := H.blkAll_take_len cs i (by omega)
  have hh := H.huge_len i cs[i].f0 cs[i].f3
  have hj := refBlocks_in cs hl i hlt (hok _ (List.getElem_mem hlt)) (H.blkAll (cs.take i) ++ H.huge i cs[i].f0 cs[i].f3) (by rw [List.length_append]; have : (H.blkAll (cs.take i)).length ≤ 9 * i := hlen; omega) h
  have hj1 : Evt (fun k => r11_Blocks.c9 k (i : Int) cs (H.blkAll (cs.take i) ++ H.huge i cs[i].f0 cs[i].f3)) (blks cs) := Evt.step (fun k => by rw [r11_Blocks.c9]) hj
  refine Evt.step (fun k => ?_) hj1
  rw [r11_Blocks.c5, if_pos (decide_eq_true (by omega)), if_pos (by omega), if_pos (by omega), if_pos (by omega), gd cs i _ hlt]
  unfold H.huge
  by_cases h2 : cs[i].f0 = 2
  ·rw [if_pos (by simpa using h2), if_pos h2, if_pos (by omega), if_pos (by omega), if_pos (by omega), if_pos (by rw [List.length_singleton]; exact big_le2 (by omega)), Int.mul_comm, i64w (by omega) (by omega), w64 (by omega)]
  ·rw [if_neg (by simpa using h2), if_neg h2, List.append_nil]
theorem refBlocks_eq (l : List Int) (hl : l.length ≤ 1048576) (hw : U64 l) : Evt (fun k => r11_Blocks.f k l) (blks (chV l).2) := by
 unfold r11_Blocks.f
 refine Evt.bind (refChunksT_eq l hl hw) ?_
 have h := refBlocks_l (chV l).2 (Nat.le_trans (chV_len l) hl) (chV_ok l hw) _ 0 rfl (Nat.zero_le _)
 simpa [blks, H.blkAll] using h
def logGo (lane n : Int) : Nat → List Chk → List Int
 | _, [] => []
 | i, c :: cs => (if c.f0 = 4 ∧ c.f2 = lane ∧ c.f3 = n then [(i : Int)] else []) ++ logGo lane n (i + 1) cs
theorem logGo_len (lane n : Int) : ∀ (cs : List Chk) (i : Nat), (logGo lane n i cs).length ≤ cs.length
 | [], _ => by simp [logGo]
 | c :: cs, i => by
  have := logGo_len lane n cs (i + 1)
  rw [logGo, List.length_append, List.length_cons]
  split <;> simp <;> omega
def logsR (cs : List Chk) (lane : Int) : Nat → List Int
 | 0 => []
 | d + 1 => logGo lane (8 - ((d + 1 : Nat) : Int)) 0 cs ++ logsR cs lane d
theorem logs_in (cs : List Chk) (hl : cs.length ≤ 1048576) (lane n : Int) {r : List Int} (A0 : List Int) (hn : 0 ≤ n ∧ n < 8)
  (h0 : Evt (fun k => r11_Logs.c5 k lane (n + 1) cs A0) r) : ∀ (d i : Nat) (acc : List Int), cs.length - i = d → i ≤ cs.length → acc.length + d ≤ 16777216 → acc ++ logGo lane n i (cs.drop i) = A0 →
  Evt (fun k => r11_Logs.c10 k lane n (i : Int) cs acc) r := by
 intro d
 induction d with
 | zero =>
  intro i acc hd hi ha he
  obtain rfl : i = cs.length := by omega
  rw [List.drop_length, logGo, List.append_nil] at he
  subst he
  exact Evt.step (fun k => by rw [r11_Logs.c10, if_neg (by simp), i64w (by omega) (by omega)]) h0
 | succ d ih =>
  intro i acc hd hi ha he
  have hlt : i < cs.length := by omega
  rw [List.drop_eq_getElem_cons hlt, logGo, ← List.append_assoc] at he
  have hw1 : IntKind.i64.wrap ((i : Int) + 1) = ((i + 1 : Nat) : Int) := i64w (by omega) (by omega)
  have h1 := ih (i + 1) (acc ++ if cs[i].f0 = 4 ∧ cs[i].f2 = lane ∧ cs[i].f3 = n then [(i : Int)] else []) (by omega) (by omega) (by rw [List.length_append]; split <;> simp <;> omega) he
  have nx' : Evt (fun k => r11_Logs.c13 k lane n (i : Int) cs (acc ++ if cs[i].f0 = 4 ∧ cs[i].f2 = lane ∧ cs[i].f3 = n then [(i : Int)] else [])) r := Evt.step (fun k => by rw [r11_Logs.c13, hw1]) h1
  refine Evt.step (fun k => ?_) nx'
  rw [r11_Logs.c10, if_pos (decide_eq_true (by omega)), if_pos (by omega), if_pos (by omega), if_pos (by omega), gd cs i _ hlt]
  by_cases e1 : cs[i].f0 = 4
  ·rw [if_pos (show (cs[i].f0 == 4) = true by simpa using e1), if_pos (by omega), if_pos (by omega), if_pos (by omega)]
   by_cases e2 : cs[i].f2 = lane
   ·rw [if_pos (show (cs[i].f2 == lane) = true by simpa using e2), if_pos (by omega), if_pos (by omega), if_pos (by omega)]
    by_cases e3 : cs[i].f3 = n
    ·rw [if_pos (show (cs[i].f3 == n) = true by simpa using e3), if_pos (by rw [List.length_singleton]; exact big_le2 (by omega)), if_pos ⟨e1, e2, e3⟩]
    ·rw [if_neg (show ¬ (cs[i].f3 == n) = true by simpa using e3), if_neg (fun h => e3 h.2.2), List.append_nil]
   ·rw [if_neg (show ¬ (cs[i].f2 == lane) = true by simpa using e2), if_neg (fun h => e2 h.2.1), List.append_nil]
  ·rw [if_neg (show ¬ (cs[i].f0 == 4) = true by simpa using e1), if_neg (fun h => e1 h.1), List.append_nil]
theorem logs_l (cs : List Chk) (hl : cs.length ≤ 1048576) (lane : Int) : ∀ (d : Nat) (acc : List Int), d ≤ 8 → acc.length + d * 1048576 ≤ 8388608 →
  Evt (fun k => r11_Logs.c5 k lane (8 - (d : Int)) cs acc) (acc ++ logsR cs lane d) := by
 intro d
 induction d with
 | zero =>
  intro acc hd ha
  exact Evt.step (f := fun _ => some (acc ++ logsR cs lane 0)) (fun k => by rw [r11_Logs.c5, if_neg (by simp)]; simp [logsR]) (Evt.some _)
 | succ d ih =>
  intro acc hd ha
  have hlen := logGo_len lane (8 - ((d + 1 : Nat) : Int)) cs 0
  have h := ih (acc ++ logGo lane (8 - ((d + 1 : Nat) : Int)) 0 cs) (by omega) (by rw [List.length_append]; omega)
  rw [List.append_assoc] at h
  have h1 := logs_in cs hl lane (8 - ((d + 1 : Nat) : Int)) (acc ++ logGo lane (8 - ((d + 1 : Nat) : Int)) 0 cs) (by omega) (by rw [show (8 : Int) - ((d + 1 : Nat) : Int) + 1 = 8 - (d : Int) by omega]; exact h) _ 0 acc rfl (Nat.zero_le _) (by omega) (by simp)
  exact Evt.step (fun k => by rw [r11_Logs.c5, if_pos (decide_eq_true (by omega))]; rfl) h1
theorem refLogs_eq (l : List Int) (lane : Int) (hl : l.length ≤ 1048576) (hw : U64 l) : Evt (fun k => r11_Logs.f k l lane) (logsR (chV l).2 lane 8) := by
 unfold r11_Logs.f
 refine Evt.bind (refChunksT_eq l hl hw) ?_
 have := logs_l (chV l).2 (Nat.le_trans (chV_len l) hl) lane 8 [] (by omega) (by simp)
 simpa using this
theorem logGo_nil (lane n : Int) : ∀ (cs : List Chk) (i : Nat), logGo lane n i cs = [] ↔ ∀ c ∈ cs, ¬ (c.f0 = 4 ∧ c.f2 = lane ∧ c.f3 = n)
 | [], _ => by simp [logGo]
 | c :: cs, i => by
  rw [logGo, List.append_eq_nil_iff, logGo_nil lane n cs (i + 1)]
  by_cases h : c.f0 = 4 ∧ c.f2 = lane ∧ c.f3 = n
  ·simp [h]
  ·simp [h]
   intro _ a b e
   exact h ⟨a, b, e⟩
theorem logsR_nil (cs : List Chk) (lane : Int) : ∀ d : Nat, logsR cs lane d = [] ↔ ∀ c ∈ cs, ¬ (c.f0 = 4 ∧ c.f2 = lane ∧ 8 - (d : Int) ≤ c.f3 ∧ c.f3 < 8)
 | 0 => by simp only [logsR, true_iff]; intro c hc h; omega
 | d + 1 => by
  rw [logsR, List.append_eq_nil_iff, logsR_nil cs lane d, logGo_nil]
  constructor
  ·rintro ⟨h1, h2⟩ c hc ⟨a, b, e, f⟩
   by_cases g : c.f3 = 8 - ((d + 1 : Nat) : Int)
   ·exact h1 c hc ⟨a, b, g⟩
   ·exact h2 c hc ⟨a, b, by omega, f⟩
  ·intro h
   exact ⟨fun c hc ⟨a, b, e⟩ => h c hc ⟨a, b, by omega, by omega⟩, fun c hc ⟨a, b, e, f⟩ => h c hc ⟨a, b, by omega, f⟩⟩
theorem noLogs (cs : List Chk) (hok : ∀ c ∈ cs, OkC c) : (∀ c ∈ cs, c.f0 ≠ 4) ↔ ∀ lane : Nat, lane < 64 → logsR cs (lane : Int) 8 = [] := by
 constructor
 ·intro h lane _
  rw [logsR_nil]
  exact fun c hc h4 => h c hc h4.1
 ·intro h c hc h4
  have hl := (hok c hc).log h4
  have := (logsR_nil cs (c.f2.toNat : Int) 8).mp (h c.f2.toNat (by omega)) c hc
  exact this ⟨h4, by omega, by omega, by omega⟩
end Go.Proofs.YtbbpcbjgekencaaGreatDoor.PS
end
