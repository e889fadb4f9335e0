/- The tables that the laws make by numbers: their chunks. -/
import Derived.Test.YtflbmccjfnkflaaDoorTileLib
import Derived.Test.YtflbmccjfnkflaaDoorQx20
import Derived.Test.YtflbmccjfnkflaaDoorQx16
import Derived.Test.YtflbmccjfnkflaaDoorQx19
set_option linter.unusedVariables false
set_option linter.unusedSimpArgs false
namespace Go.Proofs.YtflbmccjfnkflaaDoor.Pure
open Go.RowKit Go.Proofs.YtflbmccjfnkflaaDoor.Q Go.Proofs.YtflbmccjfnkflaaDoorW.PrintWords Go.Proofs.YtflbmccjfnkflaaDoorW.PrintLast Go.Proofs.YtflbmccjfnkflaaDoorW.PrintMore
theorem many_ev (c : Int) (h : c = 0 ∨ c = 1 ∨ c = 2) : Ev (fun k => lockfastref09_Many.f k c) (manyW c) := by
  rcases h with rfl | rfl | rfl
  · exact Ev.of (k := 20) (fun k => lockfastref09_Many.mono _ k) (by decide +kernel)
  · exact Ev.of (k := 20) (fun k => lockfastref09_Many.mono _ k) (by decide +kernel)
  · exact Ev.of (k := 20) (fun k => lockfastref09_Many.mono _ k) (by decide +kernel)
theorem encode_eq {c : Chk} (h : okC c) : lockfastref10_Encode.f c.f0 c.f1 c.f2 c.f3 c.f4 = some (encC c, 0) := by
  have hr := okC_range h
  unfold lockfastref10_Encode.f lockfastref10_Right.f
  have wu : ∀ x : Int, 0 ≤ x → x < 18446744073709551616 → IntKind.u64.wrap x = x := fun x h0 h1 => by
    have := wu64 x.toNat (by omega)
    rw [Int.toNat_of_nonneg h0] at this; exact this
  rw [Option.bind_some, h.1, if_pos (by trivial)]
  rw [wu c.f0 (by omega) (by omega), wu c.f1 (by omega) (by omega), wu c.f2 (by omega) (by omega), wu c.f3 (by omega) (by omega)]
  rw [wu (8 * c.f1) (by omega) (by omega), wu (32 * c.f2) (by omega) (by omega), wu (2048 * c.f3) (by omega) (by omega), wu (16777216 * c.f4) (by omega) (by omega)]
  rw [wu (c.f0 + 8 * c.f1) (by omega) (by omega), wu (c.f0 + 8 * c.f1 + 32 * c.f2) (by omega) (by omega), wu (c.f0 + 8 * c.f1 + 32 * c.f2 + 2048 * c.f3) (by omega) (by omega), wu (c.f0 + 8 * c.f1 + 32 * c.f2 + 2048 * c.f3 + 16777216 * c.f4) (by omega) (by omega)]
  rfl
def tailC : Chk := ⟨3, 0, 0, 0, 0⟩
theorem okC_tail : okC tailC := ⟨by decide, by decide⟩
theorem encC_tail : encC tailC = 3 := by decide
/-- A chunk with the tails that it has. -/
def expand (c : Chk) : List Chk := c :: List.replicate (if c.f0 = 2 then c.f3.toNat - 1 else 0) tailC
/-- A right table's chunks, one by one. -/
inductive Tab : List Chk → Prop
  | nil : Tab []
  | snoc (cs : List Chk) (c : Chk) : Tab cs → okC c → c.f0 ≠ 3 → Tab (cs ++ expand c)
theorem expand_ok {c : Chk} (h : okC c) : ∀ x ∈ expand c, okC x := by
  intro x hx
  rcases List.mem_cons.1 hx with rfl | hx
  · exact h
  · rw [List.mem_replicate] at hx
    rw [hx.2]; exact okC_tail
theorem Tab.ok {cs : List Chk} (h : Tab cs) : ∀ c ∈ cs, okC c := by
  induction h with
  | nil => intro c hc; cases hc
  | snoc cs c _ h1 h2 ih =>
    intro x hx
    rcases List.mem_append.1 hx with hx | hx
    · exact ih x hx
    · exact expand_ok h1 x hx
theorem rightGo_tails (n : Nat) (cs : List Chk) : rightGo (n : Int) (List.replicate n tailC ++ cs) = rightGo 0 cs := by
  induction n with
  | zero => simp
  | succ n ih =>
    rw [List.replicate_succ, List.cons_append, rightGo]
    have h : ((tailC.f0 == 3) != decide (((n + 1 : Nat) : Int) > 0)) = false := by
      have : ((n + 1 : Nat) : Int) > 0 := by omega
      simp [tailC, this]
    rw [if_neg (by rw [h]; decide), if_pos (by rfl), show ((n + 1 : Nat) : Int) - 1 = (n : Int) by omega]
    exact ih
theorem rightGo_expand {c : Chk} (h : okC c) (h3 : c.f0 ≠ 3) (cs : List Chk) : rightGo 0 (expand c ++ cs) = rightGo 0 cs := by
  unfold expand
  rw [List.cons_append, rightGo, if_neg (by simp [h3]), if_neg h3]
  by_cases h2 : c.f0 = 2
  · have := okC_huge h h2
    rw [if_pos h2, if_pos h2]
    have e : c.f3 - 1 = ((c.f3.toNat - 1 : Nat) : Int) := by omega
    rw [e]
    exact rightGo_tails _ cs
  · rw [if_neg h2, if_neg h2]
    rfl
theorem rightGo_tab {cs : List Chk} (h : Tab cs) : ∀ ds, rightGo 0 (cs ++ ds) = rightGo 0 ds := by
  induction h with
  | nil => intro ds; rfl
  | snoc cs c _ h1 h2 ih =>
    intro ds
    rw [List.append_assoc, ih, rightGo_expand h1 h2]
theorem Tab.right {cs : List Chk} (h : Tab cs) : rightGo 0 cs = true := by
  have := rightGo_tab h []
  rw [List.append_nil] at this
  rw [this]; rfl
theorem expand_enc (c : Chk) : (expand c).map encC = encC c :: List.replicate (if c.f0 = 2 then c.f3.toNat - 1 else 0) 3 := by
  unfold expand
  rw [List.map_cons, List.map_replicate, encC_tail]

/-- The tails behind a chunk. -/
theorem made_l1 (l : List Int) (most : Int) (i : Nat) (c : Chk) (hc : okC c) (hi : i < l.length) (hl : l.length ≤ 1048576) {r : List Int} :
    ∀ (d n : Nat) (out : List Int), (if c.f0 = 2 then c.f3.toNat else 1) - n = d → 1 ≤ n → n ≤ (if c.f0 = 2 then c.f3.toNat else 1) → out.length ≤ 1048576 + n →
      Ev (fun k => lockfastref11_Made.l0 k l most (out ++ List.replicate d 3) ((i + 1 : Nat) : Int)) r → Ev (fun k => lockfastref11_Made.l1 k l most out (i : Int) (n : Int) c.f0 c.f1 c.f2 c.f3 c.f4) r := by
  have hr := okC_range hc
  intro d
  induction d with
  | zero =>
    intro n out hd h1 hn ho h
    refine ev_next (f := fun k => lockfastref11_Made.l0 k l most out ((i + 1 : Nat) : Int)) (fun k => ?_) (by simpa using h)
    simp only [lockfastref11_Made.l1]
    by_cases h2 : c.f0 = 2
    · rw [if_pos h2] at hd hn
      rw [if_pos h2, if_neg (by omega), w64 (by omega)]; rfl
    · rw [if_neg h2, w64 (by omega)]; rfl
  | succ d ih =>
    intro n out hd h1 hn ho h
    have h2 : c.f0 = 2 := by
      by_cases h2 : c.f0 = 2
      · exact h2
      · rw [if_neg h2] at hd; omega
    have hd' := hd
    have hn' := hn
    rw [if_pos h2] at hd' hn'
    refine ev_next (f := fun k => lockfastref11_Made.l1 k l most (out ++ [3]) (i : Int) ((n + 1 : Nat) : Int) c.f0 c.f1 c.f2 c.f3 c.f4) (fun k => ?_) (ih (n + 1) (out ++ [3]) (by omega) (by omega) (by rw [if_pos h2]; omega) (by simp; omega) ?_)
    · simp only [lockfastref11_Made.l1]
      rw [if_pos h2, if_pos (by omega), if_pos (by omega), w64 (by omega)]; rfl
    · rw [List.append_assoc]
      exact h
/-- One chunk is laid. -/
theorem made_j5 (l : List Int) (most : Int) (i : Nat) (c : Chk) (hc : okC c) (hi : i < l.length) (hl : l.length ≤ 1048576) (out : List Int) (ho : out.length ≤ 1048576) {r : List Int}
    (h : Ev (fun k => lockfastref11_Made.l0 k l most (out ++ (expand c).map encC) ((i + 1 : Nat) : Int)) r) :
    Ev (fun k => lockfastref11_Made.j5 k l most out (i : Int) c.f0 c.f1 c.f2 c.f3 c.f4) r := by
  refine ev_next (f := fun k => lockfastref11_Made.l1 k l most (out ++ [encC c]) (i : Int) ((1 : Nat) : Int) c.f0 c.f1 c.f2 c.f3 c.f4) (fun k => ?_) ?_
  · simp only [lockfastref11_Made.j5]
    rw [encode_eq hc, Option.bind_some, if_pos (by omega)]; rfl
  · have hh : 1 ≤ (if c.f0 = 2 then c.f3.toNat else 1) := by
      split
      · have := okC_huge hc (by assumption); omega
      · omega
    refine made_l1 l most i c hc hi hl _ 1 (out ++ [encC c]) rfl (by omega) hh (by simp; omega) ?_
    rw [expand_enc] at h
    have e : (if c.f0 = 2 then c.f3.toNat else 1) - 1 = (if c.f0 = 2 then c.f3.toNat - 1 else 0) := by split <;> omega
    rw [e, List.append_assoc]
    exact h
/-- What a number has a chunk be, with so much room. -/
def roomC (c : Chk) (n : Nat) (most : Int) : Chk := if (n : Int) + max 1 c.f3 > most ∧ c.f0 = 2 then ⟨0, 0, 0, 0, 0⟩ else c
theorem okC_zero : okC ⟨0, 0, 0, 0, 0⟩ := ⟨by decide, by decide⟩
theorem made_j3 (l : List Int) (most : Int) (i : Nat) (c : Chk) (hc : okC c) (hi : i < l.length) (hl : l.length ≤ 1048576) (out : List Int) (ho : out.length ≤ 1048576) {r : List Int}
    (h : Ev (fun k => lockfastref11_Made.l0 k l most (out ++ (expand (roomC c out.length most)).map encC) ((i + 1 : Nat) : Int)) r) :
    Ev (fun k => lockfastref11_Made.j3 k l most out (i : Int) c.f0 c.f1 c.f2 c.f3 c.f4) r := by
  have hr := okC_range hc
  have e : wrap64 ((out.length : Int) + (mx 1 c.f3)) = (out.length : Int) + max 1 c.f3 := by
    unfold mx; rw [w64]
    · split <;> omega
    · split <;> omega
  by_cases h1 : (out.length : Int) + max 1 c.f3 > most
  · refine ev_next (f := fun k => lockfastref11_Made.j4 k l most out (i : Int) (c.f0 == 2) c.f0 c.f1 c.f2 c.f3 c.f4) (fun k => by simp only [lockfastref11_Made.j3]; rw [e, if_pos h1]) ?_
    by_cases h2 : c.f0 = 2
    · refine ev_next (f := fun k => lockfastref11_Made.j5 k l most out (i : Int) 0 0 0 0 0) (fun k => by simp only [lockfastref11_Made.j4]; rw [if_pos (by simp [h2])]) ?_
      refine made_j5 l most i ⟨0, 0, 0, 0, 0⟩ okC_zero hi hl out ho ?_
      rw [roomC, if_pos ⟨h1, h2⟩] at h; exact h
    · refine ev_next (f := fun k => lockfastref11_Made.j5 k l most out (i : Int) c.f0 c.f1 c.f2 c.f3 c.f4) (fun k => by simp only [lockfastref11_Made.j4]; rw [if_neg (by simp [h2])]) ?_
      refine made_j5 l most i c hc hi hl out ho ?_
      rw [roomC, if_neg (fun h => h2 h.2)] at h; exact h
  · refine ev_next (f := fun k => lockfastref11_Made.j4 k l most out (i : Int) false c.f0 c.f1 c.f2 c.f3 c.f4) (fun k => by simp only [lockfastref11_Made.j3]; rw [e, if_neg h1]) ?_
    refine ev_next (f := fun k => lockfastref11_Made.j5 k l most out (i : Int) c.f0 c.f1 c.f2 c.f3 c.f4) (fun k => by simp only [lockfastref11_Made.j4]; rw [if_neg (by simp)]) ?_
    refine made_j5 l most i c hc hi hl out ho ?_
    rw [roomC, if_neg (fun h => h1 h.1)] at h; exact h
theorem roomC_len {c : Chk} (hc : okC c) (n : Nat) (most : Int) (h : (n : Int) < most) : ((n + (expand (roomC c n most)).length : Nat) : Int) ≤ most := by
  have hr := okC_range hc
  unfold roomC
  split
  · simp [expand]; omega
  · rename_i hx
    by_cases h2 : c.f0 = 2
    · have : ¬ ((n : Int) + max 1 c.f3 > most) := fun h => hx ⟨h, h2⟩
      have := okC_huge hc h2
      simp [expand, h2]; omega
    · simp [expand, h2]; omega
theorem roomC_ok {c : Chk} (hc : okC c) (h3 : c.f0 ≠ 3) (n : Nat) (most : Int) : okC (roomC c n most) ∧ (roomC c n most).f0 ≠ 3 := by
  unfold roomC
  split
  · exact ⟨okC_zero, by decide⟩
  · exact ⟨hc, h3⟩
/-- What a number tells of a chunk. -/
def numC (n : Nat) : Chk :=
  if n % 6 = 1 ∨ n % 6 = 2 then ⟨1, ((n / 8 % 3 : Nat) : Int), 0, 0, ((n / 32 % (2 ^ (manyW ((n / 8 % 3 : Nat) : Int)).toNat) : Nat) : Int)⟩
  else if n % 6 = 3 then ⟨2, 0, 0, ((1 + n / 8 % 4 : Nat) : Int), 0⟩
  else if n % 6 = 4 then ⟨1, ((n / 8 % 3 : Nat) : Int), 0, 0, 0⟩
  else if n % 6 = 5 then ⟨4, 0, ((n / 8 % 3 : Nat) : Int), ((n / 32 % 8 : Nat) : Int), 0⟩
  else ⟨0, 0, 0, 0, 0⟩
theorem numC_ok (n : Nat) : okC (numC n) ∧ (numC n).f0 ≠ 3 := by
  unfold numC
  have hc : n / 8 % 3 = 0 ∨ n / 8 % 3 = 1 ∨ n / 8 % 3 = 2 := by omega
  split
  · refine ⟨⟨?_, Int.natCast_nonneg _⟩, by simp⟩
    rcases hc with e | e | e <;> rw [e] <;> simp [refRight, manyW] <;> omega
  · split
    · refine ⟨⟨?_, by simp⟩, by simp⟩
      simp [refRight]; omega
    · split
      · refine ⟨⟨?_, by simp⟩, by simp⟩
        rcases hc with e | e | e <;> rw [e] <;> simp [refRight]
      · split
        · refine ⟨⟨?_, by simp⟩, by simp⟩
          simp [refRight]; omega
        · exact ⟨okC_zero, by simp⟩
theorem td8 (n : Nat) : Int.tdiv (n : Int) 8 = ((n / 8 : Nat) : Int) := by rw [Int.tdiv_eq_ediv_of_nonneg (by omega)]; omega
theorem td32 (n : Nat) : Int.tdiv (n : Int) 32 = ((n / 32 : Nat) : Int) := by rw [Int.tdiv_eq_ediv_of_nonneg (by omega)]; omega
theorem tm3 (n : Nat) : Int.tmod (n : Int) 3 = ((n % 3 : Nat) : Int) := by rw [Int.tmod_eq_emod_of_nonneg (by omega)]; omega
theorem tm4 (n : Nat) : Int.tmod (n : Int) 4 = ((n % 4 : Nat) : Int) := by rw [Int.tmod_eq_emod_of_nonneg (by omega)]; omega
theorem tm8 (n : Nat) : Int.tmod (n : Int) 8 = ((n % 8 : Nat) : Int) := by rw [Int.tmod_eq_emod_of_nonneg (by omega)]; omega
theorem tm6 (n : Nat) : Int.tmod (n : Int) 6 = ((n % 6 : Nat) : Int) := by rw [Int.tmod_eq_emod_of_nonneg (by omega)]; omega
theorem wn (n : Nat) (h : n ≤ 65535) : wrap64 (n : Int) = n := w64 (by omega)
theorem made_j2 (l : List Int) (most : Int) (i n : Nat) (hn2 : n ≤ 65535) (out : List Int) {r : List Int} (hj3 : Ev (fun k => lockfastref11_Made.j3 k l most out (i : Int) (numC n).f0 (numC n).f1 (numC n).f2 (numC n).f3 (numC n).f4) r) :
    Ev (fun k => lockfastref11_Made.j2 k l most out (i : Int) (n : Int) ((n % 6 : Nat) : Int) (decide (n % 6 = 1 ∨ n % 6 = 2)) 0 0 0 0 0) r := by
  have hd8 : n / 8 ≤ 65535 := by omega
  have hd32 : n / 32 ≤ 65535 := by omega
  have hc3 : n / 8 % 3 = 0 ∨ n / 8 % 3 = 1 ∨ n / 8 % 3 = 2 := by omega
  by_cases h12 : n % 6 = 1 ∨ n % 6 = 2
  · rw [decide_eq_true h12]
    have hnum : numC n = ⟨1, ((n / 8 % 3 : Nat) : Int), 0, 0, ((n / 32 % (2 ^ (manyW ((n / 8 % 3 : Nat) : Int)).toNat) : Nat) : Int)⟩ := by unfold numC; rw [if_pos h12]
    rw [hnum] at hj3
    refine Ev.step (fun k => by simp only [lockfastref11_Made.j2]; rw [if_pos (by trivial), td8, wn _ hd8, tm3]) ?_
    refine Ev.bind (many_ev _ (by omega)) ?_
    have hs : shl .u64 1 (manyW ((n / 8 % 3 : Nat) : Int)) = ((2 ^ (manyW ((n / 8 % 3 : Nat) : Int)).toNat : Nat) : Int) ∧ 0 ≤ manyW ((n / 8 % 3 : Nat) : Int) := by
      rcases hc3 with e | e | e <;> rw [e] <;> exact ⟨by decide +kernel, by decide⟩
    have hp : 0 < 2 ^ (manyW ((n / 8 % 3 : Nat) : Int)).toNat := Nat.two_pow_pos _
    have e2 : Int.tmod (IntKind.u64.wrap ((n / 32 : Nat) : Int)) ((2 ^ (manyW ((n / 8 % 3 : Nat) : Int)).toNat : Nat) : Int) = ((n / 32 % (2 ^ (manyW ((n / 8 % 3 : Nat) : Int)).toNat) : Nat) : Int) := by
      rw [wu64 _ (by omega), Int.tmod_eq_emod_of_nonneg (by omega)]; norm_cast
    refine Ev.congr (fun k => by rw [if_pos hs.2, hs.1, if_neg (by omega), td32, wn _ hd32, e2]) ?_
    exact hj3
  · rw [decide_eq_false h12]
    by_cases h6 : n % 6 = 3
    · have hnum : numC n = ⟨2, 0, 0, ((1 + n / 8 % 4 : Nat) : Int), 0⟩ := by unfold numC; rw [if_neg h12, if_pos h6]
      rw [hnum] at hj3
      refine Ev.step (fun k => by simp only [lockfastref11_Made.j2]; rw [if_neg (by simp), if_pos (by omega), td8, wn _ hd8, tm4, w64 (x := 1 + ((n / 8 % 4 : Nat) : Int)) (by omega), show 1 + ((n / 8 % 4 : Nat) : Int) = ((1 + n / 8 % 4 : Nat) : Int) by omega]) hj3
    · by_cases h7 : n % 6 = 4
      · have hnum : numC n = ⟨1, ((n / 8 % 3 : Nat) : Int), 0, 0, 0⟩ := by unfold numC; rw [if_neg h12, if_neg h6, if_pos h7]
        rw [hnum] at hj3
        refine Ev.step (fun k => by simp only [lockfastref11_Made.j2]; rw [if_neg (by simp), if_neg (by omega), if_pos (by omega), td8, wn _ hd8, tm3]) hj3
      · by_cases h8 : n % 6 = 5
        · have hnum : numC n = ⟨4, 0, ((n / 8 % 3 : Nat) : Int), ((n / 32 % 8 : Nat) : Int), 0⟩ := by unfold numC; rw [if_neg h12, if_neg h6, if_neg h7, if_pos h8]
          rw [hnum] at hj3
          refine Ev.step (fun k => by simp only [lockfastref11_Made.j2]; rw [if_neg (by simp), if_neg (by omega), if_neg (by omega), if_pos (by omega), td8, wn _ hd8, tm3, td32, wn _ hd32, tm8]) hj3
        · have hnum : numC n = ⟨0, 0, 0, 0, 0⟩ := by unfold numC; rw [if_neg h12, if_neg h6, if_neg h7, if_neg h8]
          rw [hnum] at hj3
          refine Ev.step (fun k => by simp only [lockfastref11_Made.j2]; rw [if_neg (by simp), if_neg (by omega), if_neg (by omega), if_neg (by omega)]) hj3
theorem made_l0 (l : List Int) (most : Int) (hm : 0 ≤ most ∧ most ≤ 1000) (hl : l.length ≤ 1048576) (hu : ∀ x ∈ l, 0 ≤ x ∧ x ≤ 65535) : ∀ (d i : Nat) (cs : List Chk), l.length - i = d → i ≤ l.length → Tab cs → (cs.length : Int) ≤ most →
    ∃ ds, Tab ds ∧ (ds.length : Int) ≤ most ∧ Ev (fun k => lockfastref11_Made.l0 k l most (cs.map encC) (i : Int)) (ds.map encC) := by
  intro d
  induction d with
  | zero =>
    intro i cs hd hi ht hcs
    obtain rfl : i = l.length := by omega
    refine ⟨cs, ht, hcs, ?_⟩
    refine ev_next (f := fun k => lockfastref11_Made.j1 k l most (cs.map encC) (l.length : Int) false) (fun k => by simp only [lockfastref11_Made.l0]; rw [if_neg (by omega)]) ?_
    exact ev_next (f := fun _ => some (cs.map encC)) (fun k => by simp only [lockfastref11_Made.j1]; rw [if_neg (by simp)]) (ev_some _)
  | succ d ih =>
    intro i cs hd hi ht hcs
    have hlt : i < l.length := by omega
    by_cases hfull : (cs.length : Int) < most
    · obtain ⟨n, hn⟩ : ∃ n : Nat, l[i] = (n : Int) := ⟨l[i].toNat, by have := hu _ (List.getElem_mem hlt); omega⟩
      have hn2 := hu _ (List.getElem_mem hlt)
      rw [hn] at hn2
      obtain ⟨hok, h3⟩ := numC_ok n
      obtain ⟨rok, r3⟩ := roomC_ok hok h3 cs.length most
      have hlen := roomC_len hok cs.length most hfull
      obtain ⟨ds, hds, hdl, hev⟩ := ih (i + 1) (cs ++ expand (roomC (numC n) cs.length most)) (by omega) (by omega) (Tab.snoc _ _ ht rok r3) (by rw [List.length_append]; exact hlen)
      refine ⟨ds, hds, hdl, ?_⟩
      rw [List.map_append] at hev
      have hj3 := made_j3 l most i (numC n) hok hlt hl (cs.map encC) (by rw [List.length_map]; omega) (by rw [List.length_map]; exact hev)
      have hj2 := made_j2 l most i n (by omega) (cs.map encC) hj3
      refine ev_next (f := fun k => lockfastref11_Made.j1 k l most (cs.map encC) (i : Int) true) (fun k => by simp only [lockfastref11_Made.l0]; rw [if_pos (by omega), List.length_map, decide_eq_true hfull]) ?_
      refine Ev.step (fun k => by simp only [lockfastref11_Made.j1]; rw [if_pos (by trivial), if_pos (by omega), if_pos (by omega), rdI l i hlt, hn, wn n (by omega), tm6]) ?_
      by_cases h1 : n % 6 = 1
      · refine Ev.congr (fun k => by rw [if_pos (by omega)]) ?_
        have e : decide (n % 6 = 1 ∨ n % 6 = 2) = (((n % 6 : Nat) : Int) == 1) := by rw [h1]; decide
        rw [← e]; exact hj2
      · refine Ev.congr (fun k => by rw [if_neg (by omega)]) ?_
        have e : decide (n % 6 = 1 ∨ n % 6 = 2) = (((n % 6 : Nat) : Int) == 2) := by
          rw [Bool.eq_iff_iff]; simp; omega
        rw [← e]; exact hj2
    · refine ⟨cs, ht, hcs, ?_⟩
      refine ev_next (f := fun k => lockfastref11_Made.j1 k l most (cs.map encC) (i : Int) false) (fun k => by simp only [lockfastref11_Made.l0]; rw [if_pos (by omega), List.length_map, decide_eq_false hfull]) ?_
      exact ev_next (f := fun _ => some (cs.map encC)) (fun k => by simp only [lockfastref11_Made.j1]; rw [if_neg (by simp)]) (ev_some _)
theorem made_ev (l : List Int) (most : Int) (hm : 0 ≤ most ∧ most ≤ 1000) (hl : l.length ≤ 1048576) (hu : ∀ x ∈ l, 0 ≤ x ∧ x ≤ 65535) :
    ∃ ds, Tab ds ∧ (ds.length : Int) ≤ most ∧ Ev (fun k => lockfastref11_Made.f k l most) (ds.map encC) := by
  obtain ⟨ds, h1, h2, h3⟩ := made_l0 l most hm hl hu l.length 0 [] (by omega) (by omega) Tab.nil (by simpa using hm.1)
  exact ⟨ds, h1, h2, by simpa [lockfastref11_Made.f] using h3⟩
end Go.Proofs.YtflbmccjfnkflaaDoor.Pure
