/- What the functions of package tile, and the reference's, answer: plain lists. -/
import Derived.Test.YtflbmccjfnkflaaDoorTileDec
import Derived.Test.YtflbmccjfnkflaaDoorQx9
import Derived.Test.YtflbmccjfnkflaaDoorQx10
import Derived.Test.YtflbmccjfnkflaaDoorQx19
import Derived.Test.YtflbmccjfnkflaaDoorQx15
set_option linter.unusedVariables false
set_option linter.unusedSimpArgs false
namespace Go.Proofs.YtflbmccjfnkflaaDoor.Pure
open Go.RowKit Go.Proofs.YtflbmccjfnkflaaDoor.Q Go.Proofs.YtflbmccjfnkflaaDoorW.PrintWords Go.Proofs.YtflbmccjfnkflaaDoorW.PrintLast Go.Proofs.YtflbmccjfnkflaaDoorW.PrintMore
abbrev Chk := S29
abbrev Blk := S42
theorem rdC (l : List Chk) (i : Nat) (h : i < l.length) : rd_T29 l (i : Int) = l[i] := by simp [rd_T29, h]
theorem rdI (l : List Int) (i : Nat) (h : i < l.length) : rd l (i : Int) = l[i] := by simp [rd, h]
theorem ev_some {α : Type} (r : α) : Ev (fun _ => some r) r := ⟨0, fun _ _ => rfl⟩
theorem ev_next {α : Type} {g f : Nat → Option α} {r : α} (h : ∀ k, g (k + 1) = f k) (k : Ev f r) : Ev g r := Ev.step h k
theorem ev_eq {α : Type} {g : Nat → Option α} {r r' : α} (h : Ev g r) (e : r = r') : Ev g r' := e ▸ h

/-! the chunks of words -/
def decC (w : Int) : Chk := ⟨(decT w.toNat).1, (decT w.toNat).2.1, (decT w.toNat).2.2.1, (decT w.toNat).2.2.2.1, (decT w.toNat).2.2.2.2.1⟩
def decOk (w : Int) : Bool := (decT w.toNat).2.2.2.2.2
def U64 (l : List Int) : Prop := ∀ x ∈ l, 0 ≤ x ∧ x < 18446744073709551616
theorem decode_int (w : Int) (h : 0 ≤ w ∧ w < 18446744073709551616) : chunk_Decode.f w = some (decT w.toNat) := by
  have := decode_eq w.toNat (by omega)
  rw [Int.toNat_of_nonneg h.1] at this; exact this
theorem refDecode_int (w : Int) (h : 0 ≤ w ∧ w < 18446744073709551616) : lockfastref10_Decode.f w = some (decT w.toNat) := by
  have := refDecode_eq w.toNat (by omega)
  rw [Int.toNat_of_nonneg h.1] at this; exact this
def chV (l : List Int) : List Chk × Bool := if l.all decOk = true then (l.map decC, true) else ([], false)
def chGo (acc : List Chk) (l : List Int) : List Chk × Bool := if l.all decOk = true then (acc ++ l.map decC, true) else ([], false)
theorem chGo_cons_ok (acc : List Chk) (w : Int) (l : List Int) (h : decOk w = true) : chGo acc (w :: l) = chGo (acc ++ [decC w]) l := by
  simp [chGo, h]
theorem chGo_cons_no (acc : List Chk) (w : Int) (l : List Int) (h : ¬ decOk w = true) : chGo acc (w :: l) = ([], false) := by
  simp [chGo, h]
theorem chGo_nil (acc : List Chk) (l : List Int) (h : l = []) : chGo acc l = (acc, true) := by subst h; simp [chGo]
theorem chunks_l0 (l : List Int) (hl : l.length ≤ 1048576) (hw : U64 l) : ∀ (d i : Nat) (acc : List Chk), l.length - i = d → i ≤ l.length → acc.length = i →
    Ev (fun k => tile_Chunks.l0 k acc l (l.length : Int) (i : Int)) (chGo acc (l.drop i)) := by
  intro d
  induction d with
  | zero =>
    intro i acc hd hi ha
    obtain rfl : i = l.length := by omega
    rw [chGo_nil acc (l.drop l.length) (by simp)]
    exact ev_next (f := fun _ => some (acc, true)) (fun k => by simp only [tile_Chunks.l0]; rw [if_neg (by omega)]) (ev_some _)
  | succ d ih =>
    intro i acc hd hi ha
    have hlt : i < l.length := by omega
    have hx := decode_int l[i] (hw _ (List.getElem_mem hlt))
    rw [List.drop_eq_getElem_cons hlt]
    by_cases ho : decOk l[i] = true
    · rw [chGo_cons_ok _ _ _ ho]
      refine ev_next (f := fun k => tile_Chunks.l0 k (acc ++ [decC l[i]]) l (l.length : Int) ((i + 1 : Nat) : Int)) (fun k => ?_) (ih (i + 1) (acc ++ [decC l[i]]) (by omega) (by omega) (by simp [ha]))
      simp only [tile_Chunks.l0]
      rw [if_pos (by omega), if_pos (by omega), if_pos (by omega), rdI l i hlt, hx, Option.bind_some, if_pos (show (decT l[i].toNat).2.2.2.2.2 = true from ho), if_pos (by omega), w64 (by omega)]
      rfl
    · rw [chGo_cons_no _ _ _ ho]
      refine ev_next (f := fun _ => some ([], false)) (fun k => ?_) (ev_some _)
      simp only [tile_Chunks.l0]
      rw [if_pos (by omega), if_pos (by omega), if_pos (by omega), rdI l i hlt, hx, Option.bind_some, if_neg (show ¬ (decT l[i].toNat).2.2.2.2.2 = true from ho)]
theorem chunks_ev (l : List Int) (hl : l.length ≤ 1048576) (hw : U64 l) : Ev (fun k => tile_Chunks.f k l) (chV l) := by
  have h := chunks_l0 l hl hw l.length 0 [] (by omega) (by omega) rfl
  simpa [tile_Chunks.f, chV, chGo] using h
theorem refChunks_l0 (l : List Int) (hl : l.length ≤ 1048576) (hw : U64 l) : ∀ (d i : Nat) (acc : List Chk), l.length - i = d → i ≤ l.length → acc.length = i →
    Ev (fun k => lockfastref11_Chunks.l0 k l acc (i : Int)) (chGo acc (l.drop i)) := by
  intro d
  induction d with
  | zero =>
    intro i acc hd hi ha
    obtain rfl : i = l.length := by omega
    rw [chGo_nil acc (l.drop l.length) (by simp)]
    exact ev_next (f := fun _ => some (acc, true)) (fun k => by simp only [lockfastref11_Chunks.l0]; rw [if_neg (by omega)]) (ev_some _)
  | succ d ih =>
    intro i acc hd hi ha
    have hlt : i < l.length := by omega
    have hx := refDecode_int l[i] (hw _ (List.getElem_mem hlt))
    rw [List.drop_eq_getElem_cons hlt]
    by_cases ho : decOk l[i] = true
    · rw [chGo_cons_ok _ _ _ ho]
      refine ev_next (f := fun k => lockfastref11_Chunks.l0 k l (acc ++ [decC l[i]]) ((i + 1 : Nat) : Int)) (fun k => ?_) (ih (i + 1) (acc ++ [decC l[i]]) (by omega) (by omega) (by simp [ha]))
      simp only [lockfastref11_Chunks.l0]
      rw [if_pos (by omega), if_pos (by omega), rdI l i hlt, hx, Option.bind_some, if_pos (show (decT l[i].toNat).2.2.2.2.2 = true from ho), if_pos (by omega), w64 (by omega)]
      rfl
    · rw [chGo_cons_no _ _ _ ho]
      refine ev_next (f := fun _ => some ([], false)) (fun k => ?_) (ev_some _)
      simp only [lockfastref11_Chunks.l0]
      rw [if_pos (by omega), if_pos (by omega), rdI l i hlt, hx, Option.bind_some, if_neg (show ¬ (decT l[i].toNat).2.2.2.2.2 = true from ho)]
theorem refChunks_ev (l : List Int) (hl : l.length ≤ 1048576) (hw : U64 l) : Ev (fun k => lockfastref11_Chunks.f k l) (chV l) := by
  have h := refChunks_l0 l hl hw l.length 0 [] (by omega) (by omega) rfl
  simpa [lockfastref11_Chunks.f, chV, chGo] using h
theorem chV_len (l : List Int) : (chV l).1.length ≤ l.length := by unfold chV; split <;> simp

/-! what a chunk can be -/
def okC (c : Chk) : Prop := refRight c.f0 c.f1 c.f2 c.f3 c.f4 = true ∧ 0 ≤ c.f4
theorem okC_kind {c : Chk} (h : okC c) : c.f0 = 0 ∨ c.f0 = 1 ∨ c.f0 = 2 ∨ c.f0 = 3 ∨ c.f0 = 4 := by
  have h := h.1
  unfold refRight at h
  split at h
  · omega
  · split at h
    · omega
    · split at h
      · omega
      · split at h
        · omega
        · cases h
theorem okC_run {c : Chk} (h : okC c) (k : c.f0 = 1) : c.f2 = 0 ∧ c.f3 = 0 ∧ ((c.f1 = 0 ∧ c.f4 < 256) ∨ (c.f1 = 1 ∧ c.f4 < 16) ∨ (c.f1 = 2 ∧ c.f4 < 4)) := by
  have h := h.1
  unfold refRight at h
  rw [if_neg (by omega), if_pos k] at h
  exact of_decide_eq_true h
theorem okC_huge {c : Chk} (h : okC c) (k : c.f0 = 2) : c.f1 = 0 ∧ c.f2 = 0 ∧ c.f4 = 0 ∧ 1 ≤ c.f3 ∧ c.f3 ≤ 8191 := by
  have h := h.1
  unfold refRight at h
  rw [if_neg (by omega), if_neg (by omega), if_pos k] at h
  exact of_decide_eq_true h
theorem okC_log {c : Chk} (h : okC c) (k : c.f0 = 4) : c.f1 = 0 ∧ c.f4 = 0 ∧ 0 ≤ c.f2 ∧ c.f2 ≤ 63 ∧ 0 ≤ c.f3 ∧ c.f3 ≤ 7 := by
  have h := h.1
  unfold refRight at h
  rw [if_neg (by omega), if_neg (by omega), if_neg (by omega), if_pos k] at h
  exact of_decide_eq_true h
theorem okC_plain {c : Chk} (h : okC c) (k : c.f0 = 0 ∨ c.f0 = 3) : c.f1 = 0 ∧ c.f2 = 0 ∧ c.f3 = 0 ∧ c.f4 = 0 := by
  have h := h.1
  unfold refRight at h
  rw [if_pos k] at h
  exact of_decide_eq_true h
theorem decT_of (w : Nat) (h : (decT w).2.2.2.2.2 = true) : okC (decC (w : Int)) ∧ w < 4294967296 ∧
    decC (w : Int) = ⟨((w % 8 : Nat) : Int), ((w / 8 % 4 : Nat) : Int), ((w / 32 % 64 : Nat) : Int), ((w / 2048 % 8192 : Nat) : Int), ((w / 16777216 % 256 : Nat) : Int)⟩ := by
  unfold decT at h
  split at h
  · rename_i hx
    have e : decC (w : Int) = ⟨((w % 8 : Nat) : Int), ((w / 8 % 4 : Nat) : Int), ((w / 32 % 64 : Nat) : Int), ((w / 2048 % 8192 : Nat) : Int), ((w / 16777216 % 256 : Nat) : Int)⟩ := by
      unfold decC decT; rw [Int.toNat_natCast, if_pos hx]
    refine ⟨?_, hx.2, e⟩
    rw [e]
    exact ⟨hx.1, Int.natCast_nonneg _⟩
  · cases h
theorem decOk_of (w : Int) (h : decOk w = true) : okC (decC w) := by
  have h1 := (decT_of w.toNat h).1
  have : decC w = decC (w.toNat : Int) := by unfold decC; rw [Int.toNat_natCast]
  rw [this]; exact h1
theorem chV_ok (l : List Int) : ∀ c ∈ (chV l).1, okC c := by
  unfold chV
  split
  · rename_i h
    intro c hc
    obtain ⟨w, hw, rfl⟩ := List.mem_map.1 hc
    exact decOk_of w (List.all_eq_true.1 h w hw)
  · intro c hc; cases hc
/-- A chunk's word. -/
def encC (c : Chk) : Int := c.f0 + 8 * c.f1 + 32 * c.f2 + 2048 * c.f3 + 16777216 * c.f4
theorem okC_range {c : Chk} (h : okC c) : 0 ≤ c.f0 ∧ c.f0 < 8 ∧ 0 ≤ c.f1 ∧ c.f1 < 4 ∧ 0 ≤ c.f2 ∧ c.f2 < 64 ∧ 0 ≤ c.f3 ∧ c.f3 < 8192 ∧ 0 ≤ c.f4 ∧ c.f4 < 256 := by
  have h4 := h.2
  rcases okC_kind h with k | k | k | k | k
  · have := okC_plain h (Or.inl k); omega
  · have := okC_run h k; omega
  · have := okC_huge h k; omega
  · have := okC_plain h (Or.inr k); omega
  · have := okC_log h k; omega
theorem decT_enc {c : Chk} (h : okC c) : decT (encC c).toNat = (c.f0, c.f1, c.f2, c.f3, c.f4, true) := by
  have hr := okC_range h
  have e0 : (((encC c).toNat % 8 : Nat) : Int) = c.f0 := by unfold encC; omega
  have e1 : (((encC c).toNat / 8 % 4 : Nat) : Int) = c.f1 := by unfold encC; omega
  have e2 : (((encC c).toNat / 32 % 64 : Nat) : Int) = c.f2 := by unfold encC; omega
  have e3 : (((encC c).toNat / 2048 % 8192 : Nat) : Int) = c.f3 := by unfold encC; omega
  have e4 : (((encC c).toNat / 16777216 % 256 : Nat) : Int) = c.f4 := by unfold encC; omega
  unfold decT
  rw [e0, e1, e2, e3, e4, if_pos ⟨h.1, by unfold encC; omega⟩]
theorem decC_enc {c : Chk} (h : okC c) : decC (encC c) = c := by
  unfold decC; rw [decT_enc h]
theorem decOk_enc {c : Chk} (h : okC c) : decOk (encC c) = true := by
  unfold decOk; rw [decT_enc h]
theorem chV_enc (cs : List Chk) (h : ∀ c ∈ cs, okC c) : chV (cs.map encC) = (cs, true) := by
  unfold chV
  have h1 : (cs.map encC).all decOk = true := by
    rw [List.all_eq_true]
    intro w hw
    obtain ⟨c, hc, rfl⟩ := List.mem_map.1 hw
    exact decOk_enc (h c hc)
  rw [if_pos h1]
  congr 1
  rw [List.map_map]
  have : ∀ c ∈ cs, (decC ∘ encC) c = c := fun c hc => decC_enc (h c hc)
  exact (List.map_congr_left this).trans (List.map_id cs)
theorem U64_enc (cs : List Chk) (h : ∀ c ∈ cs, okC c) : U64 (cs.map encC) := by
  intro w hw
  obtain ⟨c, hc, rfl⟩ := List.mem_map.1 hw
  have := okC_range (h c hc)
  unfold encC; omega

/-! Right -/
def rightGo : Int → List Chk → Bool
  | T, [] => T == 0
  | T, c :: cs => if ((c.f0 == 3) != decide (T > 0)) = true then false else if c.f0 = 3 then rightGo (T - 1) cs else if c.f0 = 2 then rightGo (c.f3 - 1) cs else rightGo T cs
theorem right_l0 (cs : List Chk) (hl : cs.length ≤ 1048576) (hok : ∀ c ∈ cs, okC c) : ∀ (d i : Nat) (T : Int), cs.length - i = d → i ≤ cs.length → 0 ≤ T → T ≤ 8192 →
    Ev (fun k => tile_Right.l0 k true T cs (cs.length : Int) (i : Int)) (rightGo T (cs.drop i)) := by
  intro d
  induction d with
  | zero =>
    intro i T hd hi h0 h1
    obtain rfl : i = cs.length := by omega
    refine ev_next (f := fun _ => some (T == 0)) (fun k => by simp only [tile_Right.l0]; rw [if_neg (by omega), if_pos (by trivial)]) (ev_eq (ev_some _) (by simp [rightGo]))
  | succ d ih =>
    intro i T hd hi h0 h1
    have hlt : i < cs.length := by omega
    have hc := hok _ (List.getElem_mem hlt)
    rw [List.drop_eq_getElem_cons hlt, rightGo]
    by_cases hm : ((cs[i].f0 == 3) != decide (T > 0)) = true
    · rw [if_pos hm]
      refine ev_next (f := fun _ => some false) (fun k => ?_) (ev_some _)
      simp only [tile_Right.l0]
      rw [if_pos (by omega), if_pos (by omega), if_pos (by omega), rdC cs i hlt, if_pos hm]
    · rw [if_neg hm]
      have hT : cs[i].f0 = 3 ↔ T > 0 := by
        by_cases a : cs[i].f0 = 3 <;> by_cases b : T > 0 <;> simp [a, b] at hm ⊢
      by_cases h3 : cs[i].f0 = 3
      · have hp := hT.1 h3
        rw [if_pos h3]
        refine ev_next (f := fun k => tile_Right.l0 k true (T - 1) cs (cs.length : Int) ((i + 1 : Nat) : Int)) (fun k => ?_) (ih (i + 1) _ (by omega) (by omega) (by omega) (by omega))
        simp only [tile_Right.l0]
        rw [if_pos (by omega), if_pos (by omega), if_pos (by omega), rdC cs i hlt, if_neg hm, if_pos h3, w64 (by omega), w64 (by omega)]
        rfl
      · rw [if_neg h3]
        by_cases h2 : cs[i].f0 = 2
        · have hh := okC_huge hc h2
          rw [if_pos h2]
          refine ev_next (f := fun k => tile_Right.l0 k true (cs[i].f3 - 1) cs (cs.length : Int) ((i + 1 : Nat) : Int)) (fun k => ?_) (ih (i + 1) (cs[i].f3 - 1) (by omega) (by omega) (by omega) (by omega))
          simp only [tile_Right.l0]
          rw [if_pos (by omega), if_pos (by omega), if_pos (by omega), rdC cs i hlt, if_neg hm, if_neg h3, if_pos h2, w64 (by omega), w64 (by omega)]
          rfl
        · rw [if_neg h2]
          refine ev_next (f := fun k => tile_Right.l0 k true T cs (cs.length : Int) ((i + 1 : Nat) : Int)) (fun k => ?_) (ih (i + 1) _ (by omega) (by omega) (by omega) (by omega))
          simp only [tile_Right.l0]
          rw [if_pos (by omega), if_pos (by omega), if_pos (by omega), rdC cs i hlt, if_neg hm, if_neg h3, if_neg h2, w64 (by omega)]
          rfl
def rightV (l : List Int) : Bool := (chV l).2 && rightGo 0 (chV l).1
theorem right_ev (l : List Int) (hl : l.length ≤ 1048576) (hw : U64 l) : Ev (fun k => tile_Right.f k l) (rightV l) := by
  unfold tile_Right.f
  refine Ev.bind (chunks_ev l hl hw) ?_
  unfold rightV
  by_cases h : (chV l).2 = true
  · rw [h]
    have := right_l0 (chV l).1 (Nat.le_trans (chV_len l) hl) (chV_ok l) (chV l).1.length 0 0 (by omega) (by omega) (by omega) (by omega)
    simpa using this
  · have e : chV l = ([], false) := by unfold chV at h ⊢; split <;> simp_all
    rw [e]
    exact ev_next (f := fun _ => some false) (fun k => by simp only [tile_Right.l0]; rw [if_neg (by simp), if_neg (by simp)]) (ev_some _)

/-! the reference's tails -/
def isTail (cs : List Chk) (i : Nat) : Prop := ∃ k, ∃ h : k < cs.length, k < i ∧ cs[k].f0 = 2 ∧ (i : Int) < k + cs[k].f3
def tailFrom (cs : List Chk) (i p : Nat) : Prop := ∃ k, ∃ h : k < cs.length, p ≤ k ∧ k < i ∧ cs[k].f0 = 2 ∧ (i : Int) < k + cs[k].f3
theorem tail_l0 (cs : List Chk) (hl : cs.length ≤ 1048576) (hok : ∀ c ∈ cs, okC c) (i : Nat) (hi : i ≤ cs.length) (b : Bool) : ∀ (d p : Nat), i - p = d → p ≤ i →
    (b = true ↔ tailFrom cs i p) → Ev (fun k => lockfastref11_tail.l0 k cs (i : Int) (p : Int)) b := by
  intro d
  induction d with
  | zero =>
    intro p hd hp hb
    have : b = false := by
      cases b with
      | false => rfl
      | true => obtain ⟨k, h, h1, h2, _⟩ := hb.1 rfl; omega
    subst this
    exact ev_next (f := fun _ => some false) (fun k => by simp only [lockfastref11_tail.l0]; rw [if_neg (by omega)]) (ev_some _)
  | succ d ih =>
    intro p hd hp hb
    have hlt : p < cs.length := by omega
    have hr := okC_range (hok _ (List.getElem_mem hlt))
    by_cases h2 : cs[p].f0 = 2 ∧ (i : Int) < p + cs[p].f3
    · have : b = true := hb.2 ⟨p, hlt, by omega, by omega, h2.1, h2.2⟩
      subst this
      refine ev_next (f := fun _ => some true) (fun k => ?_) (ev_some _)
      simp only [lockfastref11_tail.l0]
      rw [if_pos (by omega), if_pos (by omega), if_pos (by omega), rdC cs p hlt, if_pos h2.1, w64 (by omega), if_pos h2.2]
    · refine ev_next (f := fun k => lockfastref11_tail.l0 k cs (i : Int) ((p + 1 : Nat) : Int)) (fun k => ?_) (ih (p + 1) (by omega) (by omega) (hb.trans ?_))
      · simp only [lockfastref11_tail.l0]
        rw [if_pos (by omega), if_pos (by omega), if_pos (by omega), rdC cs p hlt]
        by_cases h0 : cs[p].f0 = 2
        · rw [if_pos h0, w64 (x := (p : Int) + cs[p].f3) (by omega), if_neg (by omega), w64 (by omega)]; rfl
        · rw [if_neg h0, w64 (by omega)]; rfl
      · constructor
        · rintro ⟨k, h, h3, h4, h5, h6⟩
          refine ⟨k, h, ?_, h4, h5, h6⟩
          rcases Nat.lt_or_ge p k with hx | hx
          · omega
          · obtain rfl : k = p := by omega
            exact absurd ⟨h5, h6⟩ h2
        · rintro ⟨k, h, h3, h4, h5, h6⟩
          exact ⟨k, h, by omega, h4, h5, h6⟩
theorem tail_ev (cs : List Chk) (hl : cs.length ≤ 1048576) (hok : ∀ c ∈ cs, okC c) (i : Nat) (hi : i ≤ cs.length) (b : Bool) (hb : b = true ↔ isTail cs i) : Ev (fun k => lockfastref11_tail.f k cs (i : Int)) b := by
  have := tail_l0 cs hl hok i hi b i 0 (by omega) (by omega) (hb.trans ?_)
  · simpa [lockfastref11_tail.f] using this
  · constructor
    · rintro ⟨k, h, h1, h2⟩; exact ⟨k, h, by omega, h1, h2⟩
    · rintro ⟨k, h, _, h1, h2⟩; exact ⟨k, h, h1, h2⟩
def rightAt (cs : List Chk) (i : Nat) : Prop := ∃ h : i < cs.length, (isTail cs i ↔ cs[i].f0 = 3) ∧ (cs[i].f0 = 2 → i + cs[i].f3 ≤ cs.length)
theorem refRight_l0 (cs : List Chk) (hl : cs.length ≤ 1048576) (hok : ∀ c ∈ cs, okC c) (b : Bool) : ∀ (d i : Nat), cs.length - i = d → i ≤ cs.length →
    (b = true ↔ ∀ k, i ≤ k → k < cs.length → rightAt cs k) → Ev (fun k => lockfastref11_Right.l0 k cs (i : Int)) b := by
  intro d
  induction d with
  | zero =>
    intro i hd hi hb
    obtain rfl : i = cs.length := by omega
    have : b = true := hb.2 (fun k h1 h2 => by omega)
    subst this
    exact ev_next (f := fun _ => some true) (fun k => by simp only [lockfastref11_Right.l0]; rw [if_neg (by omega)]) (ev_some _)
  | succ d ih =>
    intro i hd hi hb
    have hlt : i < cs.length := by omega
    have hr := okC_range (hok _ (List.getElem_mem hlt))
    obtain ⟨t, ht⟩ : ∃ t : Bool, t = true ↔ isTail cs i := by
      by_cases h : isTail cs i
      · exact ⟨true, by simp [h]⟩
      · exact ⟨false, by simp [h]⟩
    have hte := tail_ev cs hl hok i hi t ht
    refine Ev.step (fun k => by simp only [lockfastref11_Right.l0]; rw [if_pos (by omega)]) (Ev.bind hte ?_)
    refine Ev.congr (fun k => by rw [if_pos (by omega), rdC cs i hlt]) ?_
    have hm : ((t != (cs[i].f0 == 3)) = true) ↔ ¬ (isTail cs i ↔ cs[i].f0 = 3) := by
      rw [← ht]
      cases t <;> by_cases h3 : cs[i].f0 = 3 <;> simp [h3]
    by_cases h1 : (isTail cs i ↔ cs[i].f0 = 3)
    · refine Ev.congr (fun k => by rw [if_neg (by rw [hm]; exact fun h => h h1)]) ?_
      by_cases h2 : cs[i].f0 = 2 → i + cs[i].f3 ≤ cs.length
      · refine Ev.congr (f := fun k => lockfastref11_Right.l0 k cs ((i + 1 : Nat) : Int)) (fun k => ?_) (ih (i + 1) (by omega) (by omega) (hb.trans ?_))
        · by_cases h0 : cs[i].f0 = 2
          · rw [if_pos h0, w64 (x := (i : Int) + cs[i].f3) (by omega), if_neg (by have := h2 h0; omega), w64 (by omega)]; rfl
          · rw [if_neg h0, w64 (by omega)]; rfl
        · constructor
          · intro h k h3 h4; exact h k (by omega) h4
          · intro h k h3 h4
            rcases Nat.lt_or_ge i k with hx | hx
            · exact h k (by omega) h4
            · obtain rfl : k = i := by omega
              exact ⟨hlt, h1, h2⟩
      · have : b = false := by
          cases b with
          | false => rfl
          | true => obtain ⟨_, _, h⟩ := hb.1 rfl i (by omega) hlt; exact absurd h h2
        subst this
        have h0 : cs[i].f0 = 2 := by
          by_cases h : cs[i].f0 = 2
          · exact h
          · exact absurd (fun h' => absurd h' h) h2
        have h3 : ¬ (i + cs[i].f3 ≤ cs.length) := fun h => h2 (fun _ => h)
        exact Ev.congr (fun k => by rw [if_pos h0, w64 (x := (i : Int) + cs[i].f3) (by omega), if_pos (by omega)]) (ev_some _)
    · have : b = false := by
        cases b with
        | false => rfl
        | true => obtain ⟨_, h, _⟩ := hb.1 rfl i (by omega) hlt; exact absurd h h1
      subst this
      exact Ev.congr (fun k => by rw [if_pos (hm.2 h1)]) (ev_some _)
def reach (cs : List Chk) (i : Nat) (T : Int) : Prop := ∃ k, ∃ h : k < cs.length, k < i ∧ cs[k].f0 = 2 ∧ k + cs[k].f3 = i + T
/-- Both ways to be right are one. -/
theorem rightGo_iff (cs : List Chk) (hok : ∀ c ∈ cs, okC c) : ∀ (d i : Nat) (T : Int), cs.length - i = d → i ≤ cs.length → 0 ≤ T →
    (∀ k, ∀ h : k < cs.length, k < i → cs[k].f0 = 2 → k + cs[k].f3 ≤ i + T) → (T > 0 → reach cs i T) →
    (rightGo T (cs.drop i) = true ↔ (∀ k, i ≤ k → k < cs.length → rightAt cs k) ∧ ∀ k, ∀ h : k < cs.length, k < i → cs[k].f0 = 2 → k + cs[k].f3 ≤ cs.length) := by
  intro d
  induction d with
  | zero =>
    intro i T hd hi hT h1 h2
    obtain rfl : i = cs.length := by omega
    rw [List.drop_length, rightGo]
    constructor
    · intro h
      have : T = 0 := by simpa using h
      subst this
      exact ⟨fun k h3 h4 => by omega, fun k h3 h4 h5 => by have := h1 k h3 h4 h5; omega⟩
    · rintro ⟨_, h⟩
      by_cases hx : 0 < T
      · obtain ⟨k, h3, h4, h5, h6⟩ := h2 hx
        have := h k h3 h4 h5
        omega
      · have : T = 0 := by omega
        simp [this]
  | succ d ih =>
    intro i T hd hi hT h1 h2
    have hlt : i < cs.length := by omega
    have hc := hok _ (List.getElem_mem hlt)
    rw [List.drop_eq_getElem_cons hlt, rightGo]
    have htl : isTail cs i ↔ T > 0 := by
      constructor
      · rintro ⟨k, h, h3, h4, h5⟩
        have := h1 k h h3 h4
        omega
      · intro h
        obtain ⟨k, h3, h4, h5, h6⟩ := h2 h
        exact ⟨k, h3, h4, h5, by omega⟩
    have hm : (((cs[i].f0 == 3) != decide (T > 0)) = true) ↔ ¬ (isTail cs i ↔ cs[i].f0 = 3) := by
      rw [htl]
      by_cases a : cs[i].f0 = 3 <;> by_cases b : T > 0 <;> simp [a, b]
    by_cases hx : (isTail cs i ↔ cs[i].f0 = 3)
    · rw [if_neg (by rw [hm]; exact fun h => h hx)]
      have one : ∀ T' : Int, (cs[i].f0 = 2 → i + cs[i].f3 = i + 1 + T') → ((∀ k, i + 1 ≤ k → k < cs.length → rightAt cs k) ∧ (∀ k, ∀ h : k < cs.length, k < i + 1 → cs[k].f0 = 2 → k + cs[k].f3 ≤ cs.length) ↔
          (∀ k, i ≤ k → k < cs.length → rightAt cs k) ∧ ∀ k, ∀ h : k < cs.length, k < i → cs[k].f0 = 2 → k + cs[k].f3 ≤ cs.length) := by
        intro T' _
        constructor
        · rintro ⟨ha, hb⟩
          refine ⟨fun k h3 h4 => ?_, fun k h3 h4 => hb k h3 (by omega)⟩
          rcases Nat.lt_or_ge i k with hy | hy
          · exact ha k hy h4
          · obtain rfl : k = i := by omega
            exact ⟨hlt, hx, hb k hlt (by omega)⟩
        · rintro ⟨ha, hb⟩
          refine ⟨fun k h3 h4 => ha k (by omega) h4, fun k h3 h4 h5 => ?_⟩
          rcases Nat.lt_or_ge k i with hy | hy
          · exact hb k h3 hy h5
          · obtain rfl : k = i := by omega
            obtain ⟨_, _, h⟩ := ha k (by omega) h3
            exact h h5
      by_cases h3 : cs[i].f0 = 3
      · have hp := htl.1 (hx.2 h3)
        rw [if_pos h3]
        refine (ih (i + 1) (T - 1) (by omega) (by omega) (by omega) ?_ ?_).trans (one (T - 1) (by omega))
        · intro k h4 h5 h6
          rcases Nat.lt_or_ge k i with hy | hy
          · have := h1 k h4 hy h6; omega
          · obtain rfl : k = i := by omega
            omega
        · intro h4
          obtain ⟨k, h5, h6, h7, h8⟩ := h2 hp
          exact ⟨k, h5, by omega, h7, by omega⟩
      · rw [if_neg h3]
        have hz : ¬ T > 0 := fun h => h3 (hx.1 (htl.2 h))
        by_cases h4 : cs[i].f0 = 2
        · have hh := okC_huge hc h4
          rw [if_pos h4]
          refine (ih (i + 1) (cs[i].f3 - 1) (by omega) (by omega) (by omega) ?_ ?_).trans (one (cs[i].f3 - 1) (by omega))
          · intro k h5 h6 h7
            rcases Nat.lt_or_ge k i with hy | hy
            · have := h1 k h5 hy h7; omega
            · obtain rfl : k = i := by omega
              omega
          · intro _
            exact ⟨i, hlt, by omega, h4, by omega⟩
        · rw [if_neg h4]
          refine (ih (i + 1) T (by omega) (by omega) (by omega) ?_ ?_).trans (one T (fun h => absurd h h4))
          · intro k h5 h6 h7
            rcases Nat.lt_or_ge k i with hy | hy
            · have := h1 k h5 hy h7; omega
            · obtain rfl : k = i := by omega
              exact absurd h7 h4
          · intro h; exact absurd h hz
    · rw [if_pos (hm.2 hx)]
      constructor
      · intro h; cases h
      · rintro ⟨h, _⟩
        obtain ⟨_, h', _⟩ := h i (by omega) hlt
        exact absurd h' hx
theorem refRight_ev (l : List Int) (hl : l.length ≤ 1048576) (hw : U64 l) : Ev (fun k => lockfastref11_Right.f k l) (rightV l) := by
  unfold lockfastref11_Right.f
  refine Ev.bind (refChunks_ev l hl hw) ?_
  unfold rightV
  by_cases h : (chV l).2 = true
  · rw [h, Bool.true_and]
    refine Ev.congr (fun k => by rw [if_pos (by trivial)]) ?_
    have := refRight_l0 (chV l).1 (Nat.le_trans (chV_len l) hl) (chV_ok l) (rightGo 0 (chV l).1) (chV l).1.length 0 (by omega) (by omega) ?_
    · simpa using this
    · have h := rightGo_iff (chV l).1 (chV_ok l) (chV l).1.length 0 0 (by omega) (by omega) (by omega) (fun k _ h => by omega) (fun h => by omega)
      rw [List.drop_zero] at h
      rw [h]
      exact ⟨fun h => h.1, fun h => ⟨h, fun k _ h => by omega⟩⟩
  · have e : (chV l).2 = false := by simpa using h
    rw [e, Bool.false_and]
    exact Ev.congr (fun k => by rw [if_neg (by simp)]) (ev_some _)
end Go.Proofs.YtflbmccjfnkflaaDoor.Pure
