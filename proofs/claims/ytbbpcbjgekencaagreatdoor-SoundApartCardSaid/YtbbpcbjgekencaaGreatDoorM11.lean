import Derived.Test.YtbbpcbjgekencaaGreatDoorM10
section
set_option linter.unusedVariables false
set_option linter.unusedSimpArgs false
set_option linter.unusedVariables false
set_option linter.unusedSimpArgs false
namespace Go.Proofs.YtbbpcbjgekencaaGreatDoor.PS
open Go Go.Proofs.YtbbpcbjgekencaaGreatDoor.Q Go.Proofs.YtbbpcbjgekencaaGreatDoor.FT Go.Proofs.YtbbpcbjgekencaaGreatDoor.Ev
abbrev Chk := S114
theorem gd {α : Type} (l : List α) (i : Nat) (z : α) (h : i < l.length) : l.getD (i : Int).toNat z = l[i] := by
 rw [Int.toNat_natCast, List.getD_eq_getElem?_getD, List.getElem?_eq_getElem h]
 rfl
theorem okC_iff (c : Chk) : okC c = true ↔ ((c.f0 = 0 ∨ c.f0 = 3) ∧ c.f1 = 0 ∧ c.f2 = 0 ∧ c.f3 = 0 ∧ c.f4 = 0 ∨ c.f0 = 1 ∧ c.f2 = 0 ∧ c.f3 = 0 ∧ (c.f1 = 0 ∧ c.f4 < 256 ∨ c.f1 = 1 ∧ c.f4 < 16 ∨ c.f1 = 2 ∧ c.f4 < 4) ∨
 c.f0 = 2 ∧ c.f1 = 0 ∧ c.f2 = 0 ∧ c.f4 = 0 ∧ 1 ≤ c.f3 ∧ c.f3 ≤ 8191 ∨ c.f0 = 4 ∧ c.f1 = 0 ∧ c.f4 = 0 ∧ 0 ≤ c.f2 ∧ c.f2 ≤ 63 ∧ 0 ≤ c.f3 ∧ c.f3 ≤ 7) := by
 unfold okC rightC
 rw [decide_eq_true_iff]
def OkC (c : Chk) : Prop := okC c = true ∧ 0 ≤ c.f4
theorem OkC.huge {c : Chk} (h : OkC c) (k : c.f0 = 2) : c.f1 = 0 ∧ c.f2 = 0 ∧ c.f4 = 0 ∧ 1 ≤ c.f3 ∧ c.f3 ≤ 8191 := by have := (okC_iff c).mp h.1; omega
theorem OkC.run {c : Chk} (h : OkC c) (k : c.f0 = 1) : c.f2 = 0 ∧ c.f3 = 0 ∧ (c.f1 = 0 ∧ c.f4 < 256 ∨ c.f1 = 1 ∧ c.f4 < 16 ∨ c.f1 = 2 ∧ c.f4 < 4) := by have := (okC_iff c).mp h.1; omega
theorem OkC.range {c : Chk} (h : OkC c) : 0 ≤ c.f0 ∧ c.f0 < 8 ∧ 0 ≤ c.f1 ∧ c.f1 < 4 ∧ 0 ≤ c.f2 ∧ c.f2 < 64 ∧ 0 ≤ c.f3 ∧ c.f3 < 8192 ∧ 0 ≤ c.f4 ∧ c.f4 < 256 := by have := (okC_iff c).mp h.1; have := h.2; omega
theorem decOk_of {w : Int} (h0 : 0 ≤ w) (h : decOk w = true) : OkC (decC w) := by
 unfold decOk at h
 simp only [Bool.and_eq_true] at h
 exact ⟨h.1, by unfold decC; simp only; omega⟩
def chV (l : List Int) : Bool × List Chk := if l.all decOk = true then (true, l.map decC) else (false, [])
def chGo (acc : List Chk) (l : List Int) : Bool × List Chk := if l.all decOk = true then (true, acc ++ l.map decC) else (false, [])
theorem chGo_ok (acc : List Chk) (w : Int) (l : List Int) (h : decOk w = true) : chGo acc (w :: l) = chGo (acc ++ [decC w]) l := by simp [chGo, h]
theorem chGo_no (acc : List Chk) (w : Int) (l : List Int) (h : ¬ decOk w = true) : chGo acc (w :: l) = (false, []) := by simp [chGo, h]
theorem chGo_nil (acc : List Chk) (l : List Int) (h : l = []) : chGo acc l = (true, acc) := by subst h; simp [chGo]
theorem decT_ok {w : Int} (h : decOk w = true) : decT w = ((decC w).f0, (decC w).f1, (decC w).f2, (decC w).f3, (decC w).f4, true) := by unfold decT; rw [if_pos h]
theorem decT_no {w : Int} (h : ¬ decOk w = true) : decT w = (0, 0, 0, 0, 0, false) := by unfold decT; rw [if_neg h]
theorem big_le {a : Nat} (h : a ≤ 1048576) : a + 1 ≤ big := by unfold big; omega
theorem chunks_l (l : List Int) (hl : l.length ≤ 1048576) (hw : U64 l) : ∀ (d i : Nat) (acc : List Chk), l.length - i = d → i ≤ l.length → acc.length = i →
  Evt (fun k => tile_Chunks.c4 k l (l.length : Int) (i : Int) acc) (chGo acc (l.drop i)) := by
 intro d
 induction d with
 | zero =>
  intro i acc hd hi ha
  obtain rfl : i = l.length := by omega
  rw [chGo_nil acc (l.drop l.length) (by simp)]
  exact Evt.step (f := fun _ => some (true, acc)) (fun k => by rw [tile_Chunks.c4, if_neg (by simp)]) (Evt.some _)
 | succ d ih =>
  intro i acc hd hi ha
  have hlt : i < l.length := by omega
  rw [List.drop_eq_getElem_cons hlt]
  by_cases ho : decOk l[i] = true
  ·rw [chGo_ok _ _ _ ho]
   refine Evt.step (f := fun k => tile_Chunks.c4 k l (l.length : Int) ((i + 1 : Nat) : Int) (acc ++ [decC l[i]])) (fun k => ?_) (ih (i + 1) (acc ++ [decC l[i]]) (by omega) (by omega) (by simp [ha]))
   rw [tile_Chunks.c4, if_pos (decide_eq_true (by omega)), if_pos (by omega), if_pos (by omega), gd l i 0 hlt, decode_eq k _ (hw _ (List.getElem_mem hlt)), Option.bind_some, decT_ok ho, if_neg (by simp)]
   rw [if_pos (by rw [List.length_singleton]; exact big_le (by omega)), i64w (by omega) (by omega)]
   rfl
  ·rw [chGo_no _ _ _ ho]
   refine Evt.step (f := fun _ => some (false, [])) (fun k => ?_) (Evt.some _)
   rw [tile_Chunks.c4, if_pos (decide_eq_true (by omega)), if_pos (by omega), if_pos (by omega), gd l i 0 hlt, decode_eq k _ (hw _ (List.getElem_mem hlt)), Option.bind_some, decT_no ho, if_pos (by decide)]
theorem chunks_eq (l : List Int) (hl : l.length ≤ 1048576) (hw : U64 l) : Evt (fun k => tile_Chunks.f k l) (chV l) := by
 have h := chunks_l l hl hw l.length 0 [] (by omega) (by omega) rfl
 simpa [tile_Chunks.f, chV, chGo] using h
theorem refChunksT_l (l : List Int) (hl : l.length ≤ 1048576) (hw : U64 l) : ∀ (d i : Nat) (acc : List Chk), l.length - i = d → i ≤ l.length → acc.length = i →
  Evt (fun k => r11_Chunks.c4 k l (i : Int) acc) (chGo acc (l.drop i)) := by
 intro d
 induction d with
 | zero =>
  intro i acc hd hi ha
  obtain rfl : i = l.length := by omega
  rw [chGo_nil acc (l.drop l.length) (by simp)]
  exact Evt.step (f := fun _ => some (true, acc)) (fun k => by rw [r11_Chunks.c4, if_neg (by simp)]) (Evt.some _)
 | succ d ih =>
  intro i acc hd hi ha
  have hlt : i < l.length := by omega
  have hr : ∀ k, r10_Decode.f (k + 21) l[i] = some (decT l[i]) := fun k => refDecode_eq k _ (hw _ (List.getElem_mem hlt))
  have hE : Evt (fun k => r10_Decode.f k l[i]) (decT l[i]) := ⟨21, fun k hk => by obtain ⟨j, rfl⟩ : ∃ j, k = j + 21 := ⟨k - 21, by omega⟩; exact hr j⟩
  rw [List.drop_eq_getElem_cons hlt]
  refine Evt.step (f := fun k => (r10_Decode.f k l[i]).bind fun y0 => (if (!y0.snd.snd.snd.snd.snd) = true then (some (false, [])) else (if acc.length + [S114.mk y0.fst y0.snd.fst y0.snd.snd.fst y0.snd.snd.snd.fst y0.snd.snd.snd.snd.fst].length ≤ big then (r11_Chunks.c4 k l (IntKind.i64.wrap ((i : Int) + 1)) (acc ++ [S114.mk y0.fst y0.snd.fst y0.snd.snd.fst y0.snd.snd.snd.fst y0.snd.snd.snd.snd.fst])) else none))) (fun k => ?_) (Evt.bind hE ?_)
  ·rw [r11_Chunks.c4, if_pos (decide_eq_true (by omega)), if_pos (by omega), if_pos (by omega), gd l i 0 hlt]
  by_cases ho : decOk l[i] = true
  ·rw [chGo_ok _ _ _ ho]
   refine Evt.congr (ih (i + 1) (acc ++ [decC l[i]]) (by omega) (by omega) (by simp [ha])) (fun k => ?_)
   rw [decT_ok ho, if_neg (by simp), if_pos (by rw [List.length_singleton]; exact big_le (by omega)), i64w (by omega) (by omega)]
   rfl
  ·rw [chGo_no _ _ _ ho]
   refine Evt.congr (Evt.some (false, [])) (fun k => ?_)
   rw [decT_no ho, if_pos (by decide)]
theorem refChunksT_eq (l : List Int) (hl : l.length ≤ 1048576) (hw : U64 l) : Evt (fun k => r11_Chunks.f k l) (chV l) := by
 have h := refChunksT_l l hl hw l.length 0 [] (by omega) (by omega) rfl
 simpa [r11_Chunks.f, chV, chGo] using h
theorem chV_len (l : List Int) : (chV l).2.length ≤ l.length := by unfold chV; split <;> simp
theorem chV_ok (l : List Int) (hw : U64 l) : ∀ c ∈ (chV l).2, OkC c := by
 intro c hc
 unfold chV at hc
 split at hc
 ·rename_i h
  simp only [List.mem_map] at hc
  obtain ⟨w, hw', rfl⟩ := hc
  exact decOk_of (hw w hw').1 (List.all_eq_true.mp h w hw')
 ·simp at hc
theorem chV_no {l : List Int} (h : (chV l).1 = false) : (chV l).2 = [] := by unfold chV at h ⊢; split <;> simp_all
def rightGo : Int → List Chk → Bool
 | T, [] => T == 0
 | T, c :: cs => if c.f0 = 3 ↔ T > 0 then (if c.f0 = 3 then rightGo (T - 1) cs else if c.f0 = 2 then rightGo (c.f3 - 1) cs else rightGo T cs) else false
theorem beq3 (x T : Int) : ((!(x == 3) == decide (T > 0)) = true) ↔ ¬ (x = 3 ↔ T > 0) := by
 by_cases a : x = 3 <;> by_cases b : T > 0 <;> simp [a, b]
theorem right_l (cs : List Chk) (hl : cs.length ≤ 1048576) (hok : ∀ c ∈ cs, OkC c) : ∀ (d i : Nat) (T : Int), cs.length - i = d → i ≤ cs.length → 0 ≤ T → T ≤ 8192 →
  Evt (fun k => tile_Right.c5 k true T (cs.length : Int) (i : Int) cs) (rightGo T (cs.drop i)) := by
 intro d
 induction d with
 | zero =>
  intro i T hd hi h0 h1
  obtain rfl : i = cs.length := by omega
  refine Evt.step (f := fun _ => some (T == 0)) (fun k => by rw [tile_Right.c5, if_neg (by simp), if_pos rfl]) ((Evt.some _).eq (by simp [rightGo]))
 | succ d ih =>
  intro i T hd hi h0 h1
  have hlt : i < cs.length := by omega
  have hc := hok _ (List.getElem_mem hlt)
  rw [List.drop_eq_getElem_cons hlt, rightGo]
  by_cases hm : cs[i].f0 = 3 ↔ T > 0
  ·rw [if_pos hm]
   have hm' : ¬ ((!(cs[i].f0 == 3) == decide (T > 0)) = true) := by rw [beq3]; exact fun h => h hm
   have nx : ∀ T' : Int, 0 ≤ T' → T' ≤ 8192 → Evt (fun k => tile_Right.c8 k true T' (cs.length : Int) (i : Int) cs) (rightGo T' (cs.drop (i + 1))) := fun T' a b =>
    Evt.step (f := fun k => tile_Right.c5 k true T' (cs.length : Int) ((i + 1 : Nat) : Int) cs) (fun k => by rw [tile_Right.c8, i64w (by omega) (by omega)]; rfl) (ih (i + 1) T' (by omega) (by omega) a b)
   by_cases h3 : cs[i].f0 = 3
   ·have hp := hm.1 h3
    rw [if_pos h3]
    refine Evt.step (fun k => ?_) (nx (T - 1) (by omega) (by omega))
    rw [tile_Right.c5, if_pos (decide_eq_true (by omega)), if_pos (by omega), if_pos (by omega), if_pos (by omega), gd cs i _ hlt, if_neg hm', if_pos (by simpa using h3), i64w (by omega) (by omega)]
   ·rw [if_neg h3]
    by_cases h2 : cs[i].f0 = 2
    ·have hh := hc.huge h2
     rw [if_pos h2]
     refine Evt.step (fun k => ?_) (nx (cs[i].f3 - 1) (by omega) (by omega))
     rw [tile_Right.c5, if_pos (decide_eq_true (by omega)), if_pos (by omega), if_pos (by omega), if_pos (by omega), gd cs i _ hlt, if_neg hm', if_neg (by simpa using h3), if_pos (by simpa using h2), i64w (by omega) (by omega)]
    ·rw [if_neg h2]
     refine Evt.step (fun k => ?_) (nx T h0 h1)
     rw [tile_Right.c5, if_pos (decide_eq_true (by omega)), if_pos (by omega), if_pos (by omega), if_pos (by omega), gd cs i _ hlt, if_neg hm', if_neg (by simpa using h3), if_neg (by simpa using h2)]
  ·rw [if_neg hm]
   refine Evt.step (f := fun _ => some false) (fun k => ?_) (Evt.some _)
   rw [tile_Right.c5, if_pos (decide_eq_true (by omega)), if_pos (by omega), if_pos (by omega), if_pos (by omega), gd cs i _ hlt, if_pos (by rw [beq3]; exact hm)]
def rightV (l : List Int) : Bool := (chV l).1 && rightGo 0 (chV l).2
theorem right_eqT (l : List Int) (hl : l.length ≤ 1048576) (hw : U64 l) : Evt (fun k => tile_Right.f k l) (rightV l) := by
 unfold tile_Right.f
 refine Evt.bind (chunks_eq l hl hw) ?_
 unfold rightV
 cases h : (chV l).1 with
 | true =>
  rw [Bool.true_and]
  have := right_l (chV l).2 (Nat.le_trans (chV_len l) hl) (chV_ok l hw) (chV l).2.length 0 0 (by omega) (by omega) (by omega) (by omega)
  simpa using this
 | false =>
  rw [chV_no h, Bool.false_and]
  exact Evt.step (f := fun _ => some false) (fun k => by rw [tile_Right.c5, if_neg (by simp), if_neg (by simp)]) (Evt.some _)
def isTail (cs : List Chk) (i : Nat) : Prop := ∃ k, ∃ h : k < cs.length, k < i ∧ cs[k].f0 = 2 ∧ (i : Int) < k + cs[k].f3
def rightAt (cs : List Chk) (i : Nat) : Prop := ∃ h : i < cs.length, (isTail cs i ↔ cs[i].f0 = 3) ∧ (cs[i].f0 = 2 → i + cs[i].f3 ≤ cs.length)
def reach (cs : List Chk) (i : Nat) (T : Int) : Prop := ∃ k, ∃ h : k < cs.length, k < i ∧ cs[k].f0 = 2 ∧ k + cs[k].f3 = i + T
theorem rightGo_iff (cs : List Chk) (hok : ∀ c ∈ cs, OkC c) : ∀ (d i : Nat) (T : Int), cs.length - i = d → i ≤ cs.length → 0 ≤ T →
  (∀ k, ∀ h : k < cs.length, k < i → cs[k].f0 = 2 → k + cs[k].f3 ≤ i + T) → (T > 0 → reach cs i T) →
  (rightGo T (cs.drop i) = true ↔ (∀ k, i ≤ k → k < cs.length → rightAt cs k) ∧ ∀ k, ∀ h : k < cs.length, k < i → cs[k].f0 = 2 → k + cs[k].f3 ≤ cs.length) := by
 intro d
 induction d with
 | zero =>
  intro i T hd hi hT h1 h2
  obtain rfl : i = cs.length := by omega
  rw [List.drop_length, rightGo]
  constructor
  ·intro h
   have : T = 0 := by simpa using h
   subst this
   exact ⟨fun k h3 h4 => by omega, fun k h3 h4 h5 => by have := h1 k h3 h4 h5; omega⟩
  ·rintro ⟨_, h⟩
   by_cases hx : 0 < T
   ·obtain ⟨k, h3, h4, h5, h6⟩ := h2 hx
    have := h k h3 h4 h5
    omega
   ·have : T = 0 := by omega
    simp [this]
 | succ d ih =>
  intro i T hd hi hT h1 h2
  have hlt : i < cs.length := by omega
  have hc := hok _ (List.getElem_mem hlt)
  rw [List.drop_eq_getElem_cons hlt, rightGo]
  have htl : isTail cs i ↔ T > 0 := by
   constructor
   ·rintro ⟨k, h, h3, h4, h5⟩
    have := h1 k h h3 h4
    omega
   ·intro h
    obtain ⟨k, h3, h4, h5, h6⟩ := h2 h
    exact ⟨k, h3, h4, h5, by omega⟩
  have hm : (cs[i].f0 = 3 ↔ T > 0) ↔ (isTail cs i ↔ cs[i].f0 = 3) := by
   rw [htl]
   exact ⟨fun h => h.symm, fun h => h.symm⟩
  by_cases hx : (isTail cs i ↔ cs[i].f0 = 3)
  ·rw [if_pos (hm.2 hx)]
   have one : ∀ T' : Int, (cs[i].f0 = 2 → i + cs[i].f3 = i + 1 + T') → ((∀ k, i + 1 ≤ k → k < cs.length → rightAt cs k) ∧ (∀ k, ∀ h : k < cs.length, k < i + 1 → cs[k].f0 = 2 → k + cs[k].f3 ≤ cs.length) ↔
     (∀ k, i ≤ k → k < cs.length → rightAt cs k) ∧ ∀ k, ∀ h : k < cs.length, k < i → cs[k].f0 = 2 → k + cs[k].f3 ≤ cs.length) := by
    intro T' _
    constructor
    ·rintro ⟨ha, hb⟩
     refine ⟨fun k h3 h4 => ?_, fun k h3 h4 => hb k h3 (by omega)⟩
     rcases Nat.lt_or_ge i k with hy | hy
     ·exact ha k hy h4
     ·obtain rfl : k = i := by omega
      exact ⟨hlt, hx, hb k hlt (by omega)⟩
    ·rintro ⟨ha, hb⟩
     refine ⟨fun k h3 h4 => ha k (by omega) h4, fun k h3 h4 h5 => ?_⟩
     rcases Nat.lt_or_ge k i with hy | hy
     ·exact hb k h3 hy h5
     ·obtain rfl : k = i := by omega
      obtain ⟨_, _, h⟩ := ha k (by omega) h3
      exact h h5
   by_cases h3 : cs[i].f0 = 3
   ·have hp := htl.1 (hx.2 h3)
    rw [if_pos h3]
    refine (ih (i + 1) (T - 1) (by omega) (by omega) (by omega) ?_ ?_).trans (one (T - 1) (by omega))
    ·intro k h4 h5 h6
     rcases Nat.lt_or_ge k i with hy | hy
     ·have := h1 k h4 hy h6; omega
     ·obtain rfl : k = i := by omega
      omega
    ·intro h4
     obtain ⟨k, h5, h6, h7, h8⟩ := h2 hp
     exact ⟨k, h5, by omega, h7, by omega⟩
   ·rw [if_neg h3]
    have hz : ¬ T > 0 := fun h => h3 (hx.1 (htl.2 h))
    by_cases h4 : cs[i].f0 = 2
    ·have hh := hc.huge h4
     rw [if_pos h4]
     refine (ih (i + 1) (cs[i].f3 - 1) (by omega) (by omega) (by omega) ?_ ?_).trans (one (cs[i].f3 - 1) (by omega))
     ·intro k h5 h6 h7
      rcases Nat.lt_or_ge k i with hy | hy
      ·have := h1 k h5 hy h7; omega
      ·obtain rfl : k = i := by omega
       omega
     ·intro _
      exact ⟨i, hlt, by omega, h4, by omega⟩
    ·rw [if_neg h4]
     refine (ih (i + 1) T (by omega) (by omega) (by omega) ?_ ?_).trans (one T (fun h => absurd h h4))
     ·intro k h5 h6 h7
      rcases Nat.lt_or_ge k i with hy | hy
      ·have := h1 k h5 hy h7; omega
      ·obtain rfl : k = i := by omega
       exact absurd h7 h4
     ·intro h; exact absurd h hz
  ·rw [if_neg (fun h => hx (hm.1 h))]
   constructor
   ·intro h; cases h
   ·rintro ⟨h, _⟩
    obtain ⟨_, h', _⟩ := h i (by omega) hlt
    exact absurd h' hx
end Go.Proofs.YtbbpcbjgekencaaGreatDoor.PS
end
section
set_option linter.unusedVariables false
set_option linter.unusedSimpArgs false
set_option linter.unusedVariables false
set_option linter.unusedSimpArgs false
namespace Go.Proofs.YtbbpcbjgekencaaGreatDoor.PS
open Go Go.Proofs.YtbbpcbjgekencaaGreatDoor.Q Go.Proofs.YtbbpcbjgekencaaGreatDoor.FT Go.Proofs.YtbbpcbjgekencaaGreatDoor.Ev
abbrev Blk := S61
noncomputable abbrev blks (l : List Chk) : List Blk := H.blkAll l
theorem w64 {x : Int} (h : -9223372036854775808 ≤ x ∧ x ≤ 9223372036854775807) : Go.RowKit.wrap64 x = x := by unfold Go.RowKit.wrap64; omega
theorem blocks_eq (l : List Int) (hl : l.length ≤ 1048576) (hw : U64 l) : Evt (fun k => tile_Blocks.f k l) (blks (chV l).2) := by
 unfold tile_Blocks.f H.tile_Blocks.f H.tile_Chunks.f
 refine Evt.congr (f := fun k => ((tile_Chunks.f k l).map fun q => (q.2, q.1)).bind fun x => if x.1.length ≤ 1048576 then some (H.blkAll x.1) else none) ?_ (fun k => by rw [if_pos (by omega)])
 refine Evt.bind (a := ((chV l).2, (chV l).1)) ?_ ?_
 ·obtain ⟨K, hK⟩ := chunks_eq l hl hw
  exact ⟨K, fun k hk => by have h : tile_Chunks.f k l = some (chV l) := hK k hk; show Option.map _ (tile_Chunks.f k l) = _; rw [h]; rfl⟩
 ·exact Evt.congr (Evt.some _) (fun k => by rw [if_pos (Nat.le_trans (chV_len l) hl)])
theorem live_bit : ∀ b : Fin 256, ∀ j : Fin 8, ((Int.tmod (IntKind.u64.wrap (Int.tdiv ((b.val : Nat) : Int) ((2 ^ j.val : Nat) : Int))) 2) == 1) = H.bitAt ((b.val : Nat) : Int) j.val := by decide +kernel
theorem power_at (k : Nat) : ∀ j : Nat, j < 8 → r10_power.f (k + 20) (j : Int) = some ((2 ^ j : Nat) : Int) := by
 intro j hj
 rcases (show j = 0 ∨ j = 1 ∨ j = 2 ∨ j = 3 ∨ j = 4 ∨ j = 5 ∨ j = 6 ∨ j = 7 by omega) with rfl | rfl | rfl | rfl | rfl | rfl | rfl | rfl <;> kernel_rfl
theorem live_eq (k : Nat) (a0 a1 a2 a3 b : Int) (hb : 0 ≤ b ∧ b < 256) (j : Nat) (h : j < 8) : r10_Live.f (k + 20) a0 a1 a2 a3 b (j : Int) = some (H.bitAt b j) := by
 unfold r10_Live.f
 have h2 := Nat.two_pow_pos j
 obtain ⟨n, rfl⟩ : ∃ n : Nat, b = (n : Int) := ⟨b.toNat, by omega⟩
 rw [power_at k j h, Option.bind_some, if_neg (by omega)]
 exact congrArg some (live_bit ⟨n, by omega⟩ ⟨j, h⟩)
theorem Evt.at {α : Type} {g : Nat → Option α} {r : α} (n : Nat) (h : ∀ k, g (k + n) = Option.some r) : Evt g r :=
 ⟨n, fun k hk => by obtain ⟨j, rfl⟩ : ∃ j, k = j + n := ⟨k - n, by omega⟩; exact h j⟩
theorem many_eqE (c : Int) (h : c = 0 ∨ c = 1 ∨ c = 2) : Evt (fun k => r09_Many.f k c) (H.manyW c) :=
 Evt.at 20 fun k => by rw [many_ref k c h]; rcases h with rfl | rfl | rfl <;> rfl
theorem big_le2 {a : Nat} (h : a ≤ 1073741824) : a + 1 ≤ big := by unfold big; omega
theorem refBlocks_in (cs : List Chk) (hl : cs.length ≤ 1048576) (i : Nat) (hi : i < cs.length) (hc : OkC cs[i]) (acc : List Blk) (ha : acc.length ≤ 104857600) {r : List Blk}
  (h0 : Evt (fun k => r11_Blocks.c5 k ((i + 1 : Nat) : Int) cs (acc ++ (H.onesI cs[i].f4 (H.manyW cs[i].f1)).map (H.mkB i cs[i].f1))) r) :
  Evt (fun k => r11_Blocks.c12 k (i : Int) 0 cs acc) r := by
 have hw1 : IntKind.i64.wrap ((i : Int) + 1) = ((i + 1 : Nat) : Int) := i64w (by omega) (by omega)
 by_cases hk : cs[i].f0 = 1
 ·have hrun := hc.run hk
  have hb4 := hc.2
  obtain ⟨M, hM, hM8⟩ : ∃ M : Nat, H.manyW cs[i].f1 = (M : Int) ∧ M ≤ 8 := by
   rcases hrun.2.2 with h | h | h
   ·exact ⟨8, by rw [h.1]; decide, by omega⟩
   ·exact ⟨4, by rw [h.1]; decide, by omega⟩
   ·exact ⟨2, by rw [h.1]; decide, by omega⟩
  have hb : 0 ≤ cs[i].f4 ∧ cs[i].f4 < 256 := by omega
  have hmany := many_eqE cs[i].f1 (by omega)
  have hones : H.onesI cs[i].f4 (H.manyW cs[i].f1) = ((List.range M).filter (H.bitAt cs[i].f4)).map fun (k : Nat) => (k : Int) := by
   unfold H.onesI H.ones
   rw [hM]
   congr 3
   omega
  rw [hones, List.map_map] at h0
  have key : ∀ (d j : Nat), M - j = d → j ≤ M → Evt (fun k => r11_Blocks.c12 k (i : Int) (j : Int) cs (acc ++ ((List.range j).filter (H.bitAt cs[i].f4)).map (H.mkB i cs[i].f1 ∘ fun (k : Nat) => (k : Int)))) r := by
   intro d
   induction d with
   | zero =>
    intro j hd hj
    obtain rfl : j = M := by omega
    refine Evt.step (fun k => by rw [r11_Blocks.c12, if_pos (by omega), if_pos (by omega), if_pos (by omega), gd cs i _ hi, if_pos (by simpa using hk), if_pos (by omega), if_pos (by omega), if_pos (by omega)]) ?_
    refine Evt.bind hmany ?_
    exact Evt.congr h0 (fun k => by rw [if_neg (by rw [hM]; simp), hw1])
   | succ d ih =>
    intro j hd hj
    have h1 := ih (j + 1) (by omega) (by omega)
    rw [List.range_succ, List.filter_append, List.map_append, ← List.append_assoc] at h1
    have hlen : (acc ++ ((List.range j).filter (H.bitAt cs[i].f4)).map (H.mkB i cs[i].f1 ∘ fun (k : Nat) => (k : Int))).length ≤ 104857608 := by
     rw [List.length_append, List.length_map]
     have := List.length_filter_le (H.bitAt cs[i].f4) (List.range j)
     rw [List.length_range] at this
     omega
    generalize (acc ++ ((List.range j).filter (H.bitAt cs[i].f4)).map (H.mkB i cs[i].f1 ∘ fun (k : Nat) => (k : Int))) = A at h1 hlen ⊢
    refine Evt.step (fun k => by rw [r11_Blocks.c12, if_pos (by omega), if_pos (by omega), if_pos (by omega), gd cs i _ hi, if_pos (by simpa using hk), if_pos (by omega), if_pos (by omega), if_pos (by omega)]) ?_
    refine Evt.bind hmany ?_
    have hlive : Evt (fun k => r10_Live.f k cs[i].f0 cs[i].f1 cs[i].f2 cs[i].f3 cs[i].f4 (j : Int)) (H.bitAt cs[i].f4 j) := Evt.at 20 fun k => live_eq k _ _ _ _ _ hb j (by omega)
    have hwj : IntKind.i64.wrap ((j : Int) + 1) = ((j + 1 : Nat) : Int) := i64w (by omega) (by omega)
    refine Evt.congr (f := fun k => (r10_Live.f k cs[i].f0 cs[i].f1 cs[i].f2 cs[i].f3 cs[i].f4 (j : Int)).bind fun y2 => (if y2 = true then (if 0 ≤ (i : Int) then (if (i : Int) < (cs.length : Int) then (if (i : Int).toNat < cs.length then ((r09_Block.f k cs[i].f1).bind fun y3 => (if A.length + [S61.mk (i : Int) (j : Int) y3].length ≤ big then (r11_Blocks.c15 k (i : Int) (j : Int) cs (A ++ [S61.mk (i : Int) (j : Int) y3])) else none)) else none) else none) else none) else (r11_Blocks.c15 k (i : Int) (j : Int) cs A))) ?_ (fun k => by rw [if_pos (by rw [hM]; simp; omega), if_pos (by omega), if_pos (by omega), if_pos (by omega)])
    refine Evt.bind hlive ?_
    cases hbit : H.bitAt cs[i].f4 j with
    | true =>
     refine Evt.congr (f := fun k => r11_Blocks.c15 k (i : Int) (j : Int) cs (A ++ [H.mkB i cs[i].f1 (j : Int)])) ?_ (fun k => by
      rw [if_pos rfl, if_pos (by omega), if_pos (by omega), if_pos (by omega), blk09, Option.bind_some, if_pos (by rw [List.length_singleton]; exact big_le2 (by omega))]
      rfl)
     refine Evt.step (f := fun k => r11_Blocks.c12 k (i : Int) ((j + 1 : Nat) : Int) cs (A ++ [H.mkB i cs[i].f1 (j : Int)])) (fun k => by rw [r11_Blocks.c15, hwj]) ?_
     simpa [hbit] using h1
    | false =>
     refine Evt.congr (f := fun k => r11_Blocks.c15 k (i : Int) (j : Int) cs A) ?_ (fun k => by rw [if_neg (by decide)])
     refine Evt.step (f := fun k => r11_Blocks.c12 k (i : Int) ((j + 1 : Nat) : Int) cs A) (fun k => by rw [r11_Blocks.c15, hwj]) ?_
     simpa [hbit] using h1
  have h := key M 0 (by omega) (by omega)
  simpa using h
 ·have hnone : H.onesI cs[i].f4 (H.manyW cs[i].f1) = [] := by
   have h4 : cs[i].f4 = 0 := by have := (okC_iff _).mp hc.1; omega
   unfold H.onesI H.ones
   rw [List.map_eq_nil_iff, List.filter_eq_nil_iff]
   intro x hx
   rw [h4]
   unfold H.bitAt
   rw [Int.zero_ediv]
   decide
  rw [hnone, List.map_nil, List.append_nil] at h0
  refine Evt.step (fun k => ?_) h0
  rw [r11_Blocks.c12, if_pos (by omega), if_pos (by omega), if_pos (by omega), gd cs i _ hi, if_neg (by simpa using hk), hw1]
theorem refBlocks_l (cs : List Chk) (hl : cs.length ≤ 1048576) (hok : ∀ c ∈ cs, OkC c) : ∀ (d i : Nat), cs.length - i = d → i ≤ cs.length →
  Evt (fun k => r11_Blocks.c5 k (i : Int) cs (blks (cs.take i))) (blks cs) := by
 intro d
 induction d with
 | zero =>
  intro i hd hi
  obtain rfl : i = cs.length := by omega
  rw [List.take_length]
  exact Evt.step (f := fun _ => some (blks cs)) (fun k => by rw [r11_Blocks.c5, if_neg (by simp)]) (Evt.some _)
 | succ d ih =>
  intro i hd hi
  have hlt : i < cs.length := by omega
  have hr := (hok _ (List.getElem_mem hlt)).range
  have h := ih (i + 1) (by omega) (by omega)
  unfold blks at h
  rw [H.blkAll_take cs i hlt] at h
  unfold H.blkOne at h
  rw [← List.append_assoc] at h
  have hlen : (blks (cs.take i)).length ≤ 9 * i := H.blkAll_take_len cs i (by omega)
  have hh := H.huge_len i cs[i].f0 cs[i].f3
  have hj := refBlocks_in cs hl i hlt (hok _ (List.getElem_mem hlt)) (H.blkAll (cs.take i) ++ H.huge i cs[i].f0 cs[i].f3) (by rw [List.length_append]; have : (H.blkAll (cs.take i)).length ≤ 9 * i := hlen; omega) h
  have hj1 : Evt (fun k => r11_Blocks.c9 k (i : Int) cs (H.blkAll (cs.take i) ++ H.huge i cs[i].f0 cs[i].f3)) (blks cs) := Evt.step (fun k => by rw [r11_Blocks.c9]) hj
  refine Evt.step (fun k => ?_) hj1
  rw [r11_Blocks.c5, if_pos (decide_eq_true (by omega)), if_pos (by omega), if_pos (by omega), if_pos (by omega), gd cs i _ hlt]
  unfold H.huge
  by_cases h2 : cs[i].f0 = 2
  ·rw [if_pos (by simpa using h2), if_pos h2, if_pos (by omega), if_pos (by omega), if_pos (by omega), if_pos (by rw [List.length_singleton]; exact big_le2 (by omega)), Int.mul_comm, i64w (by omega) (by omega), w64 (by omega)]
  ·rw [if_neg (by simpa using h2), if_neg h2, List.append_nil]
theorem refBlocks_eq (l : List Int) (hl : l.length ≤ 1048576) (hw : U64 l) : Evt (fun k => r11_Blocks.f k l) (blks (chV l).2) := by
 unfold r11_Blocks.f
 refine Evt.bind (refChunksT_eq l hl hw) ?_
 have h := refBlocks_l (chV l).2 (Nat.le_trans (chV_len l) hl) (chV_ok l hw) _ 0 rfl (Nat.zero_le _)
 simpa [blks, H.blkAll] using h
end Go.Proofs.YtbbpcbjgekencaaGreatDoor.PS
end
section
set_option linter.unusedVariables false
set_option linter.unusedSimpArgs false
set_option linter.unusedVariables false
set_option linter.unusedSimpArgs false
namespace Go.Proofs.YtbbpcbjgekencaaGreatDoor.PS
open Go Go.Proofs.YtbbpcbjgekencaaGreatDoor.Q Go.Proofs.YtbbpcbjgekencaaGreatDoor.FT Go.Proofs.YtbbpcbjgekencaaGreatDoor.Ev
theorem tdivN (a b : Nat) : Int.tdiv (a : Int) (b : Int) = ((a / b : Nat) : Int) := by rw [Int.tdiv_eq_ediv_of_nonneg (by omega)]; norm_cast
theorem tmodN (a b : Nat) : Int.tmod (a : Int) (b : Int) = ((a % b : Nat) : Int) := by rw [Int.tmod_eq_emod_of_nonneg (by omega)]; norm_cast
theorem xor_step (z i : Nat) : z % 2 ^ (i + 1) = z % 2 ^ i + 2 ^ i * (z / 2 ^ i % 2) := Nat.mod_pow_succ
theorem xor_bit (x y i : Nat) : (x ^^^ y) / 2 ^ i % 2 = (if x / 2 ^ i % 2 ≠ y / 2 ^ i % 2 then 1 else 0) := by
 rw [Nat.xor_div_two_pow, H.xor_mod2]
 split <;> omega
theorem pow31 (i : Nat) (h : i ≤ 31) : 2 ^ i ≤ 2147483648 := by
 have : 2 ^ i ≤ 2 ^ 31 := Nat.pow_le_pow_right (by decide) h
 omega
theorem xor_l (x y : Nat) (hx : x < 4294967296) (hy : y < 4294967296) : ∀ (d i p : Nat), 32 - i = d → i ≤ 32 → (i < 32 → p = 2 ^ i) →
  Evt (fun k => r02_xor.c5 k (x : Int) (y : Int) (((x ^^^ y) % 2 ^ i : Nat) : Int) (p : Int) (i : Int)) ((x ^^^ y : Nat) : Int) := by
 intro d
 induction d with
 | zero =>
  intro i p hd hi hp
  obtain rfl : i = 32 := by omega
  have : (x ^^^ y) % 2 ^ 32 = x ^^^ y := Nat.mod_eq_of_lt (Nat.xor_lt_two_pow hx hy)
  rw [this]
  exact Evt.step (f := fun _ => some ((x ^^^ y : Nat) : Int)) (fun k => by rw [r02_xor.c5, if_neg (by decide)]) (Evt.some _)
 | succ d ih =>
  intro i p hd hi hp
  have hi32 : i < 32 := by omega
  obtain rfl := hp hi32
  have hpp := Nat.two_pow_pos i
  have hp31 := pow31 i (by omega)
  have hz := xor_step (x ^^^ y) i
  rw [xor_bit] at hz
  have hlt : (x ^^^ y) % 2 ^ i < 2 ^ i := Nat.mod_lt _ hpp
  have hd1 : x / 2 ^ i ≤ x := Nat.div_le_self _ _
  have hd2 : y / 2 ^ i ≤ y := Nat.div_le_self _ _
  have nx : Evt (fun k => r02_xor.c9 k (x : Int) (y : Int) (((x ^^^ y) % 2 ^ (i + 1) : Nat) : Int) ((2 ^ i : Nat) : Int) (i : Int)) ((x ^^^ y : Nat) : Int) := by
   have h := ih (i + 1) (if i < 31 then 2 ^ (i + 1) else 2 ^ i) (by omega) (by omega) (fun h => by rw [if_pos (by omega)])
   refine Evt.step (f := fun k => r02_xor.c8 k (x : Int) (y : Int) (((x ^^^ y) % 2 ^ (i + 1) : Nat) : Int) ((if i < 31 then 2 ^ (i + 1) else 2 ^ i : Nat) : Int) (i : Int)) (fun k => ?_) (Evt.step (fun k => by rw [r02_xor.c8, i64w (by omega) (by omega)]; rfl) h)
   rw [r02_xor.c9]
   by_cases h31 : i < 31
   ·rw [if_pos (decide_eq_true (by omega)), if_pos h31]
    have : 2 ^ (i + 1) ≤ 2147483648 := pow31 (i + 1) (by omega)
    have e : (2 : Int) * ((2 ^ i : Nat) : Int) = ((2 ^ (i + 1) : Nat) : Int) := by rw [Nat.pow_succ]; omega
    rw [e, u32w (by omega) (by omega)]
   ·rw [if_neg (by simp; omega), if_neg h31]
  refine Evt.step (fun k => ?_) nx
  rw [r02_xor.c5, if_pos (decide_eq_true (by omega)), if_neg (by omega), if_neg (by omega), tdivN, tdivN]
  have hx2 : x / 2 ^ i < 4294967296 := by omega
  have hy2 : y / 2 ^ i < 4294967296 := by omega
  generalize x / 2 ^ i = qx at hz hx2 hd1 ⊢
  generalize y / 2 ^ i = qy at hz hy2 hd2 ⊢
  rw [u32w (x := (qx : Int)) (by omega) (by omega), u32w (x := (qy : Int)) (by omega) (by omega), show (2 : Int) = ((2 : Nat) : Int) from rfl, tmodN, tmodN]
  by_cases hb : qx % 2 ≠ qy % 2
  ·rw [if_pos (by simp; omega)]
   rw [if_pos hb, Nat.mul_one] at hz
   rw [hz]
   generalize (x ^^^ y) % 2 ^ i = A at hlt ⊢
   generalize 2 ^ i = B at hlt hp31 ⊢
   rw [u32w (by omega) (by omega)]
   rfl
  ·rw [if_neg (by simp; omega)]
   rw [if_neg hb, Nat.mul_zero] at hz
   have hz2 : (x ^^^ y) % 2 ^ (i + 1) = (x ^^^ y) % 2 ^ i := hz
   rw [hz2]
theorem xor_eq (x y : Nat) (hx : x < 4294967296) (hy : y < 4294967296) : Evt (fun k => r02_xor.f k (x : Int) (y : Int)) ((x ^^^ y : Nat) : Int) := by
 have := xor_l x y hx hy 32 0 1 (by omega) (by omega) (by simp)
 simpa [r02_xor.f, Nat.mod_one] using this
theorem on_l : ∀ (d i r w : Nat), 64 - i = d → i ≤ 64 → r < 4294967296 → w < 18446744073709551616 → Evt (fun k => r02_On.c3 k (r : Int) (w : Int) (i : Int)) ((H.onN d r w : Nat) : Int) := by
 intro d
 induction d with
 | zero =>
  intro i r w hd hi hr hw
  exact Evt.step (f := fun _ => some (r : Int)) (fun k => by rw [r02_On.c3, if_neg (by simp; omega)]) (Evt.some _)
 | succ d ih =>
  intro i r w hd hi hr hw
  have nx : ∀ r' : Nat, r' < 4294967296 → Evt (fun k => r02_On.c9 k (r' : Int) (w : Int) (i : Int)) ((H.onN d r' (w / 2) : Nat) : Int) := fun r' h' =>
   Evt.step (fun k => by rw [r02_On.c9, show (2 : Int) = ((2 : Nat) : Int) from rfl, tdivN, u64w (by omega) (by omega), i64w (by omega) (by omega)]; rfl) (ih (i + 1) r' (w / 2) (by omega) (by omega) h' (by omega))
  have t1 : IntKind.u64.wrap (Int.tmod (r : Int) 2) = ((r % 2 : Nat) : Int) := by rw [show (2 : Int) = ((2 : Nat) : Int) from rfl, tmodN, u64w (by omega) (by omega)]
  have t2 : Int.tmod (w : Int) 2 = ((w % 2 : Nat) : Int) := by rw [show (2 : Int) = ((2 : Nat) : Int) from rfl, tmodN]
  have t3 : IntKind.u32.wrap (Int.tdiv (r : Int) 2) = ((r / 2 : Nat) : Int) := by rw [show (2 : Int) = ((2 : Nat) : Int) from rfl, tdivN, u32w (by omega) (by omega)]
  by_cases hb : r % 2 = w % 2
  ·have e : H.onN (d + 1) r w = H.onN d (r / 2) (w / 2) := by rw [H.onN, if_pos hb, Nat.xor_zero]
   rw [e]
   refine Evt.step (fun k => ?_) (nx (r / 2) (by omega))
   rw [r02_On.c3, if_pos (decide_eq_true (by omega)), t1, t2, t3, if_neg (by simp; omega)]
  ·have e : H.onN (d + 1) r w = H.onN d (r / 2 ^^^ 3988292384) (w / 2) := by rw [H.onN, if_neg hb]
   rw [e]
   have hx := xor_eq (r / 2) 3988292384 (by omega) (by omega)
   refine Evt.step (f := fun k => (r02_xor.f k ((r / 2 : Nat) : Int) 3988292384).bind fun y0 => r02_On.c9 k y0 (w : Int) (i : Int)) (fun k => ?_) (Evt.bind hx (nx (r / 2 ^^^ 3988292384) (Nat.xor_lt_two_pow (n := 32) (by omega) (by omega))))
   rw [r02_On.c3, if_pos (decide_eq_true (by omega)), t1, t2, t3, if_pos (by simp; omega)]
theorem on_eq (r w : Nat) (hr : r < 4294967296) (hw : w < 18446744073709551616) : Evt (fun k => r02_On.f k (r : Int) (w : Int)) ((H.cBytes 8 r w : Nat) : Int) := by
 rw [H.cBytes_eq]
 exact on_l 64 0 r w (by omega) (by omega) hr hw
theorem getD_toNat (l : List Int) (i : Nat) (h : i < l.length) (hl : U64 l) : l.getD (i : Int).toNat 0 = (((l.map Int.toNat)[i]'(by simpa using h) : Nat) : Int) := by
 rw [Int.toNat_natCast, List.getD_eq_getElem?_getD, List.getElem?_eq_getElem h, List.getElem_map]
 have := (hl _ (List.getElem_mem h)).1
 show l[i] = _
 omega
theorem more_l (l : List Int) (hl : U64 l) (hlen : l.length ≤ 1048576) : ∀ (d i r : Nat), l.length - i = d → i ≤ l.length → r < 4294967296 →
  Evt (fun k => r02_More.c4 k l (r : Int) (i : Int)) ((4294967295 - H.crcRun r ((l.map Int.toNat).drop i) : Nat) : Int) := by
 intro d
 induction d with
 | zero =>
  intro i r hd hi hr
  obtain rfl : i = l.length := by omega
  have : (l.map Int.toNat).drop l.length = [] := by simp
  rw [this]
  refine Evt.step (f := fun _ => some ((4294967295 - r : Nat) : Int)) (fun k => ?_) (Evt.some _)
  rw [r02_More.c4, if_neg (by simp), u32w (by omega) (by omega)]
  congr 1
  omega
 | succ d ih =>
  intro i r hd hi hr
  have hlt : i < l.length := by omega
  have hlt' : i < (l.map Int.toNat).length := by simpa using hlt
  have hw : (l.map Int.toNat)[i] < 18446744073709551616 := by
   rw [List.getElem_map]
   have := hl _ (List.getElem_mem hlt)
   have h1 := this.1
   have h2 := this.2
   omega
  have hon := on_eq r (l.map Int.toNat)[i] hr hw
  have hlt2 : H.cBytes 8 r (l.map Int.toNat)[i] < 4294967296 := by rw [H.cBytes_eq]; exact H.onN_lt _ _ _ hr
  have h := ih (i + 1) (H.cBytes 8 r (l.map Int.toNat)[i]) (by omega) (by omega) hlt2
  rw [List.drop_eq_getElem_cons hlt']
  refine Evt.step (f := fun k => (r02_On.f k (r : Int) (((l.map Int.toNat)[i] : Nat) : Int)).bind fun y0 => r02_More.c4 k l y0 ((i + 1 : Nat) : Int)) (fun k => ?_) (Evt.bind hon h)
  rw [r02_More.c4, if_pos (decide_eq_true (by omega)), if_pos (by omega), if_pos (by omega), getD_toNat l i hlt hl, i64w (by omega) (by omega)]
  rfl
theorem crc_eq (l : List Int) (hl : U64 l) (hlen : l.length ≤ 1048576) : Evt (fun k => r02_Of.f k l) (H.sealL l) := by
 have h := more_l l hl hlen l.length 0 4294967295 (by omega) (by omega) (by omega)
 unfold r02_Of.f r02_More.f
 refine Evt.bind (a := H.sealL l) ?_ (Evt.some _)
 rw [List.drop_zero] at h
 refine Evt.congr h (fun k => ?_)
 rw [show IntKind.u32.wrap (4294967295 - 0) = ((4294967295 : Nat) : Int) by decide +kernel]
 rfl
theorem refEnc_rounds (k : Nat) (w l : Int) : r06_Encode.c9 (k + 9) 0 (ByteArray.mk (Array.mk [84, 83, 65, 70, 75, 67, 79, 76])) 0 w l =
  (r05_Chunks.f k w l).bind fun y1 => (r02_Of.f k [6076272092419149644, 1, IntKind.u64.wrap w, IntKind.u64.wrap l, IntKind.u64.wrap y1, 0, 0]).bind fun y2 =>
   some (0, [6076272092419149644, 1, IntKind.u64.wrap w, IntKind.u64.wrap l, IntKind.u64.wrap y1, 0, 0] ++ [IntKind.u64.wrap y2]) := by kernel_rfl
theorem sealL_lt (l : List Int) : 0 ≤ H.sealL l ∧ H.sealL l < 4294967296 := by
 unfold H.sealL
 have := H.crcL_lt 0 (l.map Int.toNat)
 omega
theorem Evt.shift {α : Type} {g f : Nat → Option α} {r : α} (n : Nat) (h : ∀ k, g (k + n) = f k) (e : Evt f r) : Evt g r := by
 obtain ⟨K, hK⟩ := e
 refine ⟨K + n, fun k hk => ?_⟩
 obtain ⟨j, rfl⟩ : ∃ j, k = j + n := ⟨k - n, by omega⟩
 rw [h]
 exact hK j (by omega)
theorem refEnc_yes (w l : Int) (h : Geo w l) (hw : w ≤ 1048576) : Evt (fun k => r06_Encode.f k w l) (0, H.headL w l (chunksG w l)) := by
 have hl := h.l
 have hg : 1 ≤ chunksG w l := h
 unfold r06_Encode.f
 refine Evt.bind (Evt.shift 2000 (fun k => refRight05_eq k w l) (Evt.some _)) ?_
 rw [decide_eq_true h]
 refine Evt.congr (f := fun k => r06_Encode.c9 k 0 (ByteArray.mk (Array.mk [84, 83, 65, 70, 75, 67, 79, 76])) 0 w l) ?_ (fun k => by rw [if_neg (by simp)])
 refine Evt.shift 9 (fun k => refEnc_rounds k w l) ?_
 refine Evt.bind (Evt.shift 2000 (fun k => refChunks_eq k w l) (Evt.some _)) ?_
 rw [u64w (x := w) (by omega) (by omega), u64w (x := l) (by omega) (by omega), u64w (x := chunksG w l) (by omega) (by omega)]
 have hU : U64 [6076272092419149644, 1, w, l, chunksG w l, 0, 0] := by
  intro x hx
  simp only [List.mem_cons, List.not_mem_nil, or_false] at hx
  unfold Wd
  rcases hx with rfl | rfl | rfl | rfl | rfl | rfl | rfl <;> omega
 refine Evt.bind (crc_eq _ hU (by simp)) ?_
 have := sealL_lt [6076272092419149644, 1, w, l, chunksG w l, 0, 0]
 rw [u64w (by omega) (by omega)]
 exact Evt.some _
def lanesOf (l : List Int) : Int := l.getD 3 0
def HeadOk (l : List Int) (n : Int) : Prop := Geo (l.length : Int) n ∧ l.take 8 = H.headL (l.length : Int) n (chunksG (l.length : Int) n)
noncomputable instance (l : List Int) (n : Int) : Decidable (HeadOk l n) := inferInstanceAs (Decidable (_ ∧ _))
noncomputable def superT (l : List Int) : Int × Int × Int := if HeadOk l (lanesOf l) then ((l.length : Int), lanesOf l, 0) else (0, 0, 7)
theorem headL_len (a b n : Int) : (H.headL a b n).length = 8 := rfl
theorem HeadOk.len {l : List Int} {n : Int} (h : HeadOk l n) : 8 ≤ l.length := by
 have := congrArg List.length h.2
 rw [headL_len, List.length_take] at this
 omega
theorem super_eq (l : List Int) (hl : U64 l) (hlen : l.length ≤ 1048576) : H.super_Decode.f l = some (superT l) := by
 unfold H.super_Decode.f
 rw [if_pos (fun x hx => ⟨(hl x hx).1, by have := (hl x hx).2; omega⟩)]
 unfold H.superV superT
 by_cases h8 : l.length < 8
 ·rw [if_pos h8, if_neg (fun h => by have := h.len; omega)]
 rw [if_neg h8]
 have e : Go.Proofs.YtbbpcbjgekencaaGreatDoorW.PrintWords.rd l 3 = lanesOf l := rfl
 rw [e]
 by_cases h64 : lanesOf l > 64
 ·rw [if_pos h64, if_neg (fun h => by have := h.1.l; omega)]
 rw [if_neg h64]
 unfold H.geo_Right.f H.geo_Chunks.f
 rw [geoRight_eq, Option.bind_some]
 by_cases hg : Geo (l.length : Int) (lanesOf l)
 ·have := hg.l
  have hgg : 1 ≤ chunksG (l.length : Int) (lanesOf l) := hg
  rw [decide_eq_true hg, if_pos rfl, geoChunks_eq, Option.bind_some, if_pos ⟨by omega, by omega⟩]
  by_cases ht : l.take 8 = H.headL (l.length : Int) (lanesOf l) (chunksG (l.length : Int) (lanesOf l))
  ·rw [if_pos ht, if_pos ⟨hg, ht⟩]
  ·rw [if_neg ht, if_neg (fun h => ht h.2)]
 ·rw [decide_eq_false hg, if_neg (by decide), if_neg (fun h => hg h.1)]
end Go.Proofs.YtbbpcbjgekencaaGreatDoor.PS
end
section
set_option linter.unusedVariables false
set_option linter.unusedSimpArgs false
set_option linter.unusedVariables false
set_option linter.unusedSimpArgs false
namespace Go.Proofs.YtbbpcbjgekencaaGreatDoor.PS
open Go Go.Proofs.YtbbpcbjgekencaaGreatDoor.Q Go.Proofs.YtbbpcbjgekencaaGreatDoor.FT Go.Proofs.YtbbpcbjgekencaaGreatDoor.Ev
theorem rightGo_at (cs : List Chk) (hok : ∀ c ∈ cs, OkC c) (h : rightGo 0 cs = true) (i : Nat) (hi : i < cs.length) : rightAt cs i := by
 have h' := rightGo_iff cs hok cs.length 0 0 (by omega) (by omega) (by omega) (fun k _ h => by omega) (fun h => by omega)
 rw [List.drop_zero] at h'
 exact (h'.mp h).1 i (Nat.zero_le _) hi
def SzOk (b : Blk) : Prop := (b.f2 = 4 ∨ b.f2 = 8 ∨ b.f2 = 16) ∨ (b.f1 = 0 ∧ ∃ m : Int, 1 ≤ m ∧ b.f2 = 32 * m)
theorem blk_in (cs : List Chk) (hl : cs.length ≤ 1048576) (hok : ∀ c ∈ cs, OkC c) (h : rightGo 0 cs = true) : ∀ b ∈ blks cs, BlkIn (cs.length : Int) b ∧ SzOk b := by
 intro b hb
 unfold blks H.blkAll at hb
 rw [List.mem_flatMap] at hb
 obtain ⟨⟨c, i⟩, hp, hb⟩ := hb
 have hp := List.mk_mem_zipIdx_iff_getElem?.mp hp
 obtain ⟨hi, rfl⟩ := List.getElem?_eq_some_iff.mp hp
 have hc := hok _ (List.getElem_mem hi)
 unfold H.blkOne at hb
 rw [List.mem_append] at hb
 rcases hb with hb | hb
 ·unfold H.huge at hb
  split at hb
  ·rename_i h2
   simp only [List.mem_singleton] at hb
   subst hb
   have hh := hc.huge h2
   obtain ⟨_, _, hf⟩ := rightGo_at cs hok h i hi
   have hf := hf h2
   have e : Go.RowKit.wrap64 (cs[i].f3 * 32) = cs[i].f3 * 32 := w64 (by omega)
   refine ⟨⟨by show (0 : Int) ≤ (i : Int); omega, by show (i : Int) < _; omega, by show (0 : Int) ≤ 0; omega, by show (4 : Int) ≤ Go.RowKit.wrap64 _; omega, ?_, .inl rfl, by show (0 : Int) < 8; omega⟩, .inr ⟨rfl, cs[i].f3, by omega, by show Go.RowKit.wrap64 _ = _; omega⟩⟩
   show 32 * (i : Int) + 0 * Go.RowKit.wrap64 (cs[i].f3 * 32) + Go.RowKit.wrap64 (cs[i].f3 * 32) ≤ _
   rw [e]
   omega
  ·cases hb
 ·rw [List.mem_map] at hb
  obtain ⟨j, hj, rfl⟩ := hb
  unfold H.onesI at hj
  rw [List.mem_map] at hj
  obtain ⟨n, hn, rfl⟩ := hj
  unfold H.ones at hn
  rw [List.mem_filter, List.mem_range] at hn
  obtain ⟨hn, hbit⟩ := hn
  have hc1 : cs[i].f1 = 0 ∨ cs[i].f1 = 1 ∨ cs[i].f1 = 2 := by
   have := hc.range
   by_cases h3 : cs[i].f1 = 3
   ·rw [h3] at hn
    have : H.manyW 3 = 0 := by decide
    rw [this] at hn
    omega
   ·omega
  have key : ∀ (w m : Int), (n : Int) < m → m * w = 32 → (w = 4 ∨ w = 8 ∨ w = 16) → BlkIn (cs.length : Int) ⟨(i : Int), (n : Int), w⟩ ∧ SzOk ⟨(i : Int), (n : Int), w⟩ := by
   intro w m hnm hmw hw
   have hfit : (n : Int) * w + w ≤ 32 := by
    rcases hw with rfl | rfl | rfl <;> omega
   exact ⟨⟨by show (0 : Int) ≤ (i : Int); omega, by show (i : Int) < _; omega, by show (0 : Int) ≤ (n : Int); omega, by show (4 : Int) ≤ w; omega, by show 32 * (i : Int) + (n : Int) * w + w ≤ _; omega, .inr (by show w < 32; omega), by show (n : Int) < 8; rcases hw with rfl | rfl | rfl <;> omega⟩, .inl hw⟩
  rcases hc1 with e | e | e
  ·rw [e] at hn
   have e2 : H.manyW 0 = 8 := by decide
   rw [e2] at hn
   have := key 4 8 (by omega) (by omega) (by omega)
   unfold H.mkB
   rw [e]
   exact this
  ·rw [e] at hn
   have e2 : H.manyW 1 = 4 := by decide
   rw [e2] at hn
   have := key 8 4 (by omega) (by omega) (by omega)
   unfold H.mkB
   rw [e]
   exact this
  ·rw [e] at hn
   have e2 : H.manyW 2 = 2 := by decide
   rw [e2] at hn
   have := key 16 2 (by omega) (by omega) (by omega)
   unfold H.mkB
   rw [e]
   exact this
def wd (x : List Int) (a : Int) : Int := x.getD a.toNat 0
theorem wd_Wd (x : List Int) (hx : U64 x) (a : Int) : Wd (wd x a) := by
 unfold wd
 rw [List.getD_eq_getElem?_getD]
 cases h : x[a.toNat]? with
 | none => exact ⟨by decide, by decide⟩
 | some v => exact hx v (List.mem_of_getElem? h)
theorem two_words (x : List Int) (a : Int) (h0 : 0 ≤ a) (h : a + 2 ≤ x.length) : x.drop a.toNat = wd x a :: wd x (a + 1) :: x.drop (a + 2).toNat := by
 have h1 : a.toNat < x.length := by omega
 have h2 : a.toNat + 1 < x.length := by omega
 rw [List.drop_eq_getElem_cons h1, List.drop_eq_getElem_cons h2]
 unfold wd
 rw [show (a + 1).toNat = a.toNat + 1 by omega, show (a + 2).toNat = a.toNat + 1 + 1 by omega, List.getD_eq_getElem?_getD, List.getD_eq_getElem?_getD, List.getElem?_eq_getElem h1, List.getElem?_eq_getElem h2]
 rfl
def mkH (h : Int × Int × Int × Bool) (w : Int) : Int × Int × Int × Bool := (h.1, h.2.1, h.2.2.1, h.2.2.2 && roomS h.2.1 == w)
def hdV (x : List Int) (l : Int) (b : Blk) : Int × Int × Int × Bool := mkH (headT (wd x (placeG (x.length : Int) l b)) (wd x (placeG (x.length : Int) l b + 1))) b.f2
theorem headT_size (a b : Int) (h : (headT a b).2.2.2 = true) : 0 ≤ (headT a b).2.1 ∧ (headT a b).2.1 ≤ 4096 ∧ 1 ≤ (headT a b).1 ∧ (headT a b).1 ≤ 65535 ∧ 1 ≤ (headT a b).2.2.1 ∧ (headT a b).2.2.1 = b := by
 unfold headT at h ⊢
 split at h
 ·rename_i hc
  rw [if_pos hc]
  have := hc.1
  unfold rightH at this
  simp only [decide_eq_true_eq] at this
  exact ⟨this.2.2.1, this.2.2.2.1, this.1, this.2.1, this.2.2.2.2, rfl⟩
 ·cases h
theorem place_fit {x : List Int} {l : Int} {b : Blk} (h : Geo (x.length : Int) l) (hb : BlkIn (chunksG (x.length : Int) l) b) : 0 ≤ placeG (x.length : Int) l b ∧ placeG (x.length : Int) l b + b.f2 ≤ x.length := by
 have h1 := h.l
 have h2 := hb.fit
 have h3 := hb.mul
 have h4 := hb.c0
 have h5 : 1 ≤ chunksG (x.length : Int) l := h
 unfold placeG heapAt
 omega
theorem header_eq (k : Nat) (x : List Int) (l : Int) (b : Blk) (hx : U64 x) (h : Geo (x.length : Int) l) (hb : BlkIn (chunksG (x.length : Int) l) b) :
  sound_pool_header.f k x (x.length : Int) l b.f0 b.f1 b.f2 = some (hdV x l b) := by
 have hf := place_fit h hb
 have hw := hb.w0
 unfold sound_pool_header.f
 rw [place_eq k _ l b h hb, Option.bind_some, if_pos hf.1, if_pos (by omega), if_pos (by omega), Int.toNat_natCast, List.take_length, two_words x _ hf.1 (by omega), oidDecode_eq k _ _ _ (wd_Wd x hx _) (wd_Wd x hx _).1, Option.bind_some]
 unfold hdV mkH
 cases hr : (headT (wd x (placeG (x.length : Int) l b)) (wd x (placeG (x.length : Int) l b + 1))).2.2.2 with
 | false => simp [hr]
 | true =>
  have hs := headT_size _ _ hr
  rw [if_pos rfl, room_eq k _ hs.1 hs.2.1, Option.bind_some, Bool.true_and]
end Go.Proofs.YtbbpcbjgekencaaGreatDoor.PS
end
