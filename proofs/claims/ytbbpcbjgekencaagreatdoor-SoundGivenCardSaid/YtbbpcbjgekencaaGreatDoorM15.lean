import Derived.Test.YtbbpcbjgekencaaGreatDoorM14
section
set_option linter.unusedVariables false
set_option linter.unusedSimpArgs false
set_option linter.unusedVariables false
set_option linter.unusedSimpArgs false
namespace Go.Proofs.YtbbpcbjgekencaaGreatDoor.PS
open Go Go.Proofs.YtbbpcbjgekencaaGreatDoor.Q Go.Proofs.YtbbpcbjgekencaaGreatDoor.FT Go.Proofs.YtbbpcbjgekencaaGreatDoor.Ev
abbrev Spn := S57
abbrev Opn := S135
abbrev Ent := S96
abbrev Itm := S94
def rightU (a : Int) (old : List Int) : Bool := decide (0 ≤ a ∧ a ≤ 65535 ∧ 1 ≤ old.length ∧ old.length ≤ 4096)
def firstU (gen a : Int) (old : List Int) : Int := a + 1048576 * old.length + 281474976710656 * (gen % 65536)
noncomputable def encU (gen a : Int) (old : List Int) : List Int := if rightU a old = true then firstU gen a old :: (old ++ [H.sealL (firstU gen a old :: old)]) else []
theorem refURight_eq (k : Nat) (a : Int) (old : List Int) : r13_Right.f k a old = some (rightU a old) := by
 unfold r13_Right.f rightU
 by_cases h1 : a ≥ 0
 ·rw [if_pos (decide_eq_true h1)]
  by_cases h2 : a ≤ 65535
  ·rw [if_pos (decide_eq_true h2)]
   by_cases h3 : (old.length : Int) > 0
   ·rw [if_pos (decide_eq_true h3)]
    congr 1
    rw [decide_eq_decide]
    omega
   ·rw [if_neg (by simpa using h3), decide_eq_false (by omega)]
  ·rw [if_neg (by simpa using h2), decide_eq_false (by omega)]
 ·rw [if_neg (by simpa using h1), decide_eq_false (by omega)]
theorem firstU_Wd {gen a : Int} {old : List Int} (h : rightU a old = true) : Wd (firstU gen a old) := by
 unfold rightU at h
 rw [decide_eq_true_eq] at h
 unfold firstU
 exact ⟨by omega, by omega⟩
theorem U64_cons {x : Int} {l : List Int} (hx : Wd x) (h : U64 l) : U64 (x :: l) := fun y hy => by
 rcases List.mem_cons.mp hy with rfl | hy
 ·exact hx
 ·exact h y hy
theorem U64_app {l m : List Int} (h : U64 l) (h2 : U64 m) : U64 (l ++ m) := fun y hy => (List.mem_append.mp hy).elim (h y) (h2 y)
theorem U64_nil : U64 [] := fun y hy => by cases hy
theorem U64_one {x : Int} (hx : Wd x) : U64 [x] := U64_cons hx U64_nil
theorem seal_Wd (l : List Int) : Wd (H.sealL l) := by have := sealL_lt l; exact ⟨this.1, by omega⟩
theorem encU_ok {gen a : Int} {old : List Int} (ho : U64 old) : U64 (encU gen a old) ∧ (encU gen a old).length ≤ old.length + 2 := by
 unfold encU
 split
 ·rename_i h
  exact ⟨U64_cons (firstU_Wd h) (U64_app ho (U64_one (seal_Wd _))), by simp⟩
 ·exact ⟨U64_nil, by simp⟩
theorem refUEnc_eq (gen a : Int) (old : List Int) (hg : 0 ≤ gen) (ho : U64 old) : Evt (fun k => r13_Encode.f k gen a old) (if rightU a old = true then 0 else 1, encU gen a old) := by
 unfold r13_Encode.f
 refine Evt.bind (Evt.of fun k => refURight_eq k a old) ?_
 unfold encU
 cases h : rightU a old with
 | false => exact Evt.of fun k => by rw [if_pos (by decide)]; rfl
 | true =>
  have hw := firstU_Wd (gen := gen) h
  have h' := h
  unfold rightU at h'
  rw [decide_eq_true_eq] at h'
  have e : IntKind.u64.wrap (IntKind.u64.wrap (IntKind.u64.wrap a + IntKind.u64.wrap (1048576 * IntKind.u64.wrap (old.length : Int))) + IntKind.u64.wrap (281474976710656 * gen.tmod 65536)) = firstU gen a old := by
   unfold firstU
   rw [Int.tmod_eq_emod_of_nonneg hg, u64w (x := (old.length : Int)) (by omega) (by omega), u64w (x := 1048576 * (old.length : Int)) (by omega) (by omega), u64w (x := a) (by omega) (by omega), u64w (x := a + 1048576 * (old.length : Int)) (by omega) (by omega), u64w (x := 281474976710656 * (gen % 65536)) (by omega) (by omega), u64w (by omega) (by omega)]
  refine Evt.congr (f := fun k => (r02_Of.f k (firstU gen a old :: old)).bind fun y1 => (if ([firstU gen a old] ++ old).length + [IntKind.u64.wrap y1].length ≤ big then (some ((0 : Int), [firstU gen a old] ++ old ++ [IntKind.u64.wrap y1])) else none)) ?_ (fun k => by
   rw [if_neg (by decide), e, if_pos (by rw [List.length_singleton]; unfold big; omega)]
   rfl)
  refine Evt.bind (crc_eq _ (U64_cons hw ho) (by rw [List.length_cons]; omega)) ?_
  have hs := sealL_lt (firstU gen a old :: old)
  refine Evt.of fun k => ?_
  rw [u64w (by omega) (by omega), if_pos (by simp only [List.length_append, List.length_singleton]; unfold big; omega)]
  rfl
def canR (o : Opn) : Bool := decide (0 ≤ o.f0 ∧ o.f0 ≤ 2 ∧ 0 ≤ o.f1 ∧ o.f1 ≤ 65535)
def wordsR (l : List Opn) : List Int := l.flatMap fun o => [4 * o.f1 + o.f0, o.f2]
noncomputable def encR (l : List Opn) : Int × List Int := if l.length ≤ 19 then if l.all canR = true then (0, wordsR l ++ [H.sealL (wordsR l)]) else (1, []) else (3, [])
theorem refCan_eq (k : Nat) (o : Opn) : r12_can.f k o.f0 o.f1 o.f2 = some (canR o) := by
 unfold r12_can.f canR
 by_cases h1 : o.f0 ≥ 0
 ·rw [if_pos (decide_eq_true h1)]
  by_cases h2 : o.f0 ≤ 2
  ·rw [if_pos (decide_eq_true h2)]
   by_cases h3 : o.f1 ≥ 0
   ·rw [if_pos (decide_eq_true h3)]
    congr 1
    rw [decide_eq_decide]
    omega
   ·rw [if_neg (by simpa using h3), decide_eq_false (by omega)]
  ·rw [if_neg (by simpa using h2), decide_eq_false (by omega)]
 ·rw [if_neg (by simpa using h1), decide_eq_false (by omega)]
theorem wordsR_len (l : List Opn) : (wordsR l).length = 2 * l.length := by
 unfold wordsR
 induction l with
 | nil => rfl
 | cons o l ih => rw [List.flatMap_cons, List.length_append, ih, List.length_cons]; simp; omega
theorem wordsR_U64 {l : List Opn} (hc : l.all canR = true) (hv : ∀ o ∈ l, Wd o.f2) : U64 (wordsR l) := by
 intro x hx
 unfold wordsR at hx
 rw [List.mem_flatMap] at hx
 obtain ⟨o, ho, hx⟩ := hx
 have h1 := List.all_eq_true.mp hc o ho
 unfold canR at h1
 rw [decide_eq_true_eq] at h1
 simp only [List.mem_cons, List.not_mem_nil, or_false] at hx
 rcases hx with rfl | rfl
 ·exact ⟨by omega, by omega⟩
 ·exact hv o ho
theorem encR_ok {l : List Opn} (hv : ∀ o ∈ l, Wd o.f2) : U64 (encR l).2 ∧ (encR l).2.length ≤ 39 := by
 unfold encR
 split
 ·split
  ·rename_i h1 h2
   exact ⟨U64_app (wordsR_U64 h2 hv) (U64_one (seal_Wd _)), by rw [List.length_append, wordsR_len]; simp; omega⟩
  ·exact ⟨U64_nil, by simp⟩
 ·exact ⟨U64_nil, by simp⟩
theorem refREnc_l (l : List Opn) (hl : l.length ≤ 19) (hv : ∀ o ∈ l, Wd o.f2) : ∀ (d i : Nat), l.length - i = d → i ≤ l.length → (l.take i).all canR = true →
  Evt (fun k => r12_Encode.c7 k l (i : Int) (wordsR (l.take i))) (encR l) := by
 intro d
 induction d with
 | zero =>
  intro i hd hi hc
  obtain rfl : i = l.length := by omega
  rw [List.take_length] at hc ⊢
  have hw := wordsR_len l
  refine Evt.step (f := fun k => (r02_Of.f k (wordsR l)).bind fun y1 => (if (wordsR l).length + [IntKind.u64.wrap y1].length ≤ big then (some ((0 : Int), wordsR l ++ [IntKind.u64.wrap y1])) else none)) (fun k => by rw [r12_Encode.c7, if_neg (by simp)]) ?_
  refine Evt.bind (crc_eq _ (wordsR_U64 hc hv) (by omega)) ?_
  have hs := sealL_lt (wordsR l)
  refine Evt.of fun k => ?_
  rw [u64w (by omega) (by omega), if_pos (by rw [List.length_singleton]; unfold big; omega)]
  unfold encR
  rw [if_pos hl, if_pos hc]
 | succ d ih =>
  intro i hd hi hc
  have hlt : i < l.length := by omega
  have ht : l.take (i + 1) = l.take i ++ [l[i]] := List.take_succ_eq_append_getElem hlt
  have hcan := refCan_eq
  cases h : canR l[i] with
  | false =>
   refine (Evt.step (f := fun _ => some ((1 : Int), ([] : List Int))) (fun k => ?_) (Evt.some _)).eq ?_
   ·rw [r12_Encode.c7, if_pos (decide_eq_true (by omega)), if_pos (by omega), if_pos (by omega), gd l i _ hlt, refCan_eq, h, Option.bind_some, if_pos (by decide)]
   ·unfold encR
    rw [if_pos hl, if_neg (fun hh => by rw [List.all_eq_true.mp hh _ (List.getElem_mem hlt)] at h; cases h)]
  | true =>
   have h' := h
   unfold canR at h'
   rw [decide_eq_true_eq] at h'
   have hw := wordsR_len (l.take i)
   have hwt : wordsR (l.take (i + 1)) = wordsR (l.take i) ++ [4 * l[i].f1 + l[i].f0, l[i].f2] := by rw [ht]; unfold wordsR; rw [List.flatMap_append]; rfl
   have hn := ih (i + 1) (by omega) (by omega) (by rw [ht, List.all_append, hc]; simp [h])
   refine Evt.step (fun k => ?_) hn
   rw [r12_Encode.c7, if_pos (decide_eq_true (by omega)), if_pos (by omega), if_pos (by omega), gd l i _ hlt, refCan_eq, h, Option.bind_some, if_neg (by decide), if_pos (by omega), if_pos (by omega), if_pos (by omega), if_pos (by omega), if_pos (by omega), if_pos (by omega), if_pos (by rw [hw, List.length_take]; simp only [List.length_cons, List.length_nil]; unfold big; omega), i64w (x := (i : Int) + 1) (by omega) (by omega), u64w (x := l[i].f1) (by omega) (by omega), u64w (x := l[i].f0) (by omega) (by omega), u64w (x := 4 * l[i].f1) (by omega) (by omega), u64w (x := 4 * l[i].f1 + l[i].f0) (by omega) (by omega), hwt]
   rfl
theorem refREnc_eq (l : List Opn) (hv : ∀ o ∈ l, Wd o.f2) : Evt (fun k => r12_Encode.f k l) (encR l) := by
 unfold r12_Encode.f
 by_cases hl : l.length ≤ 19
 ·exact Evt.congr (refREnc_l l hl hv l.length 0 (by omega) (by omega) rfl) (fun k => by rw [if_neg (by rw [decide_eq_true_eq]; omega)]; rfl)
 ·exact (Evt.of fun k => by rw [if_pos (decide_eq_true (by omega))]).eq (by unfold encR; rw [if_neg hl])
def encM (s c g : Int) : Int × Int := if rightM s c g = true then (65536 * g + 4 * c + s, 0) else (0, 1)
theorem refMEnc_eq (k : Nat) (s c g : Int) (hg : 0 ≤ g) : r07_Encode.f k s c g = some (encM s c g) := by
 unfold r07_Encode.f encM
 rw [refMarkRight_eq, Option.bind_some]
 cases h : rightM s c g with
 | false => rfl
 | true =>
  unfold rightM at h
  rw [decide_eq_true_eq] at h
  rw [if_neg (by decide), u64w (x := 65536 * g) (by omega) (by omega), u64w (x := c) (by omega) (by omega), u64w (x := 4 * c) (by omega) (by omega), u64w (x := 65536 * g + 4 * c) (by omega) (by omega), u64w (x := s) (by omega) (by omega), u64w (by omega) (by omega)]
  rfl
theorem encM_Wd (s c g : Int) (hg : 0 ≤ g) : Wd (encM s c g).1 := by
 unfold encM
 split
 ·rename_i h
  unfold rightM at h
  rw [decide_eq_true_eq] at h
  exact ⟨by show 0 ≤ 65536 * g + 4 * c + s; omega, by show 65536 * g + 4 * c + s < _; omega⟩
 ·exact ⟨by decide, by decide⟩
theorem refMark05 (k : Nat) (w l i : Int) (h : Geo w l) (h0 : 0 ≤ i) (h1 : i < l) : r05_Mark.f (k + 2000) w l i = some (10 + i) := by
 have := h.l
 unfold r05_Mark.f
 rw [refRight05_eq, Option.bind_some, decide_eq_true h, if_pos (by decide), if_pos (decide_eq_false (by omega)), if_neg (by rw [decide_eq_true_eq]; omega), i64w (by omega) (by omega)]
def logAt (l i : Int) : Int := 10 + l + 72 * i
theorem refLog05 (k : Nat) (w l i : Int) (h : Geo w l) (h0 : 0 ≤ i) (h1 : i < l) : r05_Log.f (k + 2000) w l i = some (logAt l i, 32) := by
 have := h.l
 unfold r05_Log.f
 rw [refRight05_eq, Option.bind_some, decide_eq_true h, if_pos (by decide), if_pos (decide_eq_false (by omega)), if_neg (by rw [decide_eq_true_eq]; omega), i64w (x := 10 + l) (by omega) (by omega), i64w (x := 72 * i) (by omega) (by omega), i64w (by omega) (by omega)]
 rfl
theorem refRedo05 (k : Nat) (w l i : Int) (h : Geo w l) (h0 : 0 ≤ i) (h1 : i < l) : r05_Redo.f (k + 2000) w l i = some (logAt l i + 32, 40) := by
 have := h.l
 unfold r05_Redo.f
 rw [refRight05_eq, Option.bind_some, decide_eq_true h, if_pos (by decide), if_pos (decide_eq_false (by omega)), if_neg (by rw [decide_eq_true_eq]; omega), i64w (x := 10 + l) (by omega) (by omega), i64w (x := 72 * i) (by omega) (by omega), i64w (x := 10 + l + 72 * i) (by omega) (by omega), i64w (by omega) (by omega)]
 rfl
noncomputable def poolT (x : List Int) (w l i : Int) : Bool := decide ((HeadOk x (lanesOf x) ∧ (x.length : Int) = w ∧ lanesOf x = l) ∧ 0 ≤ i ∧ i < l) && (chV (tabL x l)).1
theorem refPool_eq {x : List Int} (hx : U64 x) (hlen : x.length ≤ 1048576) (w l i : Int) : Evt (fun k => r15_Pool.f k x w l i) (poolT x w l i) := by
 unfold r15_Pool.f
 refine Evt.bind (refSuper_eq x hx hlen) ?_
 unfold superT poolT
 by_cases hh : HeadOk x (lanesOf x)
 ·rw [if_pos hh]
  by_cases hw : (x.length : Int) = w ∧ lanesOf x = l
  ·obtain ⟨rfl, rfl⟩ := hw
   refine Evt.congr (f := fun k => if decide (i < 0) = false then if decide (i ≥ lanesOf x) = true then some false else (r05_Table.f k (x.length : Int) (lanesOf x)).bind fun y1 => (r15_Part.f k x y1.fst y1.snd).bind fun y2 => (r11_Chunks.f k y2).bind fun y3 => some y3.fst else some false) ?_ (fun k => by rw [if_pos (by simp), if_pos (by simp)])
   by_cases h0 : i < 0
   ·exact (Evt.of fun k => by rw [if_neg (by simp; omega)]).eq (by rw [decide_eq_false (by omega)]; rfl)
   ·by_cases h1 : i ≥ lanesOf x
    ·exact (Evt.of fun k => by rw [if_pos (decide_eq_false h0), if_pos (decide_eq_true h1)]).eq (by rw [decide_eq_false (by omega)]; rfl)
    ·refine Evt.congr (f := fun k => (r05_Table.f k (x.length : Int) (lanesOf x)).bind fun y1 => (r15_Part.f k x y1.fst y1.snd).bind fun y2 => (r11_Chunks.f k y2).bind fun y3 => some y3.fst) ?_ (fun k => by rw [if_pos (decide_eq_false h0), if_neg (by simpa using h1)])
     refine Evt.bind (Evt.at 2000 fun k => refTable_eq k _ _ hh.1) ?_
     refine Evt.bind (Evt.of fun k => part_eq k x _ hh.1) ?_
     refine Evt.bind (refChunksT_eq _ (tab_len hlen hh.1) (tabL_U64 x _ hx)) ?_
     exact (Evt.some _).eq (by rw [decide_eq_true ⟨⟨hh, rfl, rfl⟩, by omega, by omega⟩, Bool.true_and])
  ·refine (Evt.of fun k => ?_).eq (r := false) (by rw [decide_eq_false (fun h => hw h.1.2)]; rfl)
   rw [if_pos (by simp), if_neg (by simp only [Bool.not_eq_false', Bool.and_eq_true, beq_iff_eq]; exact fun h => hw (by simpa using h))]
 ·rw [if_neg hh]
  exact (Evt.of fun k => by rw [if_neg (by decide)]).eq (by rw [decide_eq_false (fun h => hh h.1.1)]; rfl)
noncomputable def logSp (x : List Int) (l i : Int) : List Spn := ⟨logAt l i, 32⟩ :: (logsR (chV (tabL x l)).2 i 8).map fun c => ⟨heapAt (x.length : Int) l + 32 * c, 32⟩
theorem logGo_rng (lane n : Int) : ∀ (cs : List Chk) (i : Nat), ∀ c ∈ logGo lane n i cs, (i : Int) ≤ c ∧ c < i + cs.length
 | [], i, c, h => by simp [logGo] at h
 | d :: cs, i, c, h => by
  rw [logGo] at h
  rcases List.mem_append.mp h with h | h
  ·split at h
   ·rw [List.mem_singleton] at h
    rw [List.length_cons]
    omega
   ·cases h
  ·have := logGo_rng lane n cs (i + 1) c h
   rw [List.length_cons]
   omega
theorem logsR_rng (cs : List Chk) (lane : Int) : ∀ (d : Nat), (∀ c ∈ logsR cs lane d, 0 ≤ c ∧ c < cs.length) ∧ (logsR cs lane d).length ≤ d * cs.length
 | 0 => ⟨fun c h => (by simp [logsR] at h), by simp [logsR]⟩
 | d + 1 => by
  obtain ⟨h1, h2⟩ := logsR_rng cs lane d
  have h3 := logGo_len lane (8 - ((d + 1 : Nat) : Int)) cs 0
  rw [logsR]
  refine ⟨fun c h => ?_, by rw [List.length_append, Nat.add_mul]; omega⟩
  rcases List.mem_append.mp h with h | h
  ·have := logGo_rng _ _ _ _ c h; omega
  ·exact h1 c h
theorem refLog_l {x : List Int} {l : Int} (hg : Geo (x.length : Int) l) (cs : List Int) (hcs : ∀ c ∈ cs, 0 ≤ c ∧ c < chunksG (x.length : Int) l) (hl : cs.length ≤ 16777216) (s0 : Spn) : ∀ (d i : Nat), cs.length - i = d → i ≤ cs.length →
  Evt (fun k => r15_Log.c9 k (i : Int) (x.length : Int) l (s0 :: (cs.take i).map fun c => ⟨heapAt (x.length : Int) l + 32 * c, 32⟩) cs) (s0 :: cs.map fun c => ⟨heapAt (x.length : Int) l + 32 * c, 32⟩) := by
 intro d
 induction d with
 | zero =>
  intro i hd hi
  obtain rfl : i = cs.length := by omega
  rw [List.take_length]
  exact Evt.step (f := fun _ => some _) (fun k => by rw [r15_Log.c9, if_neg (by simp)]) (Evt.some _)
 | succ d ih =>
  intro i hd hi
  have hlt : i < cs.length := by omega
  have hc := hcs _ (List.getElem_mem hlt)
  have hn := ih (i + 1) (by omega) (by omega)
  rw [List.take_succ_eq_append_getElem hlt, List.map_append, ← List.cons_append] at hn
  refine Evt.step (f := fun k => (r05_Chunk.f k (x.length : Int) l cs[i]).bind fun y5 => (if (s0 :: (cs.take i).map fun c => (⟨heapAt (x.length : Int) l + 32 * c, 32⟩ : Spn)).length + [(⟨y5.fst, y5.snd⟩ : Spn)].length ≤ big then r15_Log.c9 k ((i + 1 : Nat) : Int) (x.length : Int) l ((s0 :: (cs.take i).map fun c => ⟨heapAt (x.length : Int) l + 32 * c, 32⟩) ++ [⟨y5.fst, y5.snd⟩]) cs else none)) (fun k => by
   rw [r15_Log.c9, if_pos (decide_eq_true (by omega)), if_pos (by omega), if_pos (by omega), if_pos (by omega), gd cs i _ hlt, i64w (x := (i : Int) + 1) (by omega) (by omega)]
   rfl) ?_
  refine Evt.bind (Evt.at 2000 fun k => refChunk_eq k _ _ _ hg hc.1 hc.2) ?_
  refine Evt.congr hn (fun k => ?_)
  rw [if_pos (by simp only [List.length_cons, List.length_map, List.length_take, List.length_nil]; unfold big; omega)]
  rfl
theorem refLog_eq {x : List Int} (hx : U64 x) (hlen : x.length ≤ 1048576) (w l i : Int) : Evt (fun k => r15_Log.f k x w l i) (if poolT x w l i = true then logSp x l i else []) := by
 unfold r15_Log.f
 refine Evt.bind (refPool_eq hx hlen w l i) ?_
 cases hp : poolT x w l i with
 | false => exact Evt.of fun k => by rw [if_pos (by decide)]; rfl
 | true =>
  unfold poolT at hp
  simp only [Bool.and_eq_true, decide_eq_true_eq] at hp
  obtain ⟨⟨⟨hh, rfl, rfl⟩, h0, h1⟩, hc⟩ := hp
  have hl := hh.1.l
  refine Evt.congr (f := fun k => ((r05_Log.f k (x.length : Int) (lanesOf x) i).bind fun y1 => ((r05_Table.f k (x.length : Int) (lanesOf x)).bind fun y2 => ((r15_Part.f k x y2.fst y2.snd).bind fun y3 => ((r11_Logs.f k y3 i).bind fun y4 => (r15_Log.c9 k 0 (x.length : Int) (lanesOf x) ([⟨y1.fst, y1.snd⟩]) y4)))))) ?_ (fun k => by rw [if_neg (by decide)])
  refine Evt.bind (Evt.at 2000 fun k => refLog05 k _ _ _ hh.1 h0 h1) ?_
  refine Evt.bind (Evt.at 2000 fun k => refTable_eq k _ _ hh.1) ?_
  refine Evt.bind (Evt.of fun k => part_eq k x _ hh.1) ?_
  refine Evt.bind (refLogs_eq _ i (tab_len hlen hh.1) (tabL_U64 x _ hx)) ?_
  have htl := tabL_len x _ hh.1
  have hle := chV_len (tabL x (lanesOf x))
  obtain ⟨r1, r2⟩ := logsR_rng (chV (tabL x (lanesOf x))).2 i 8
  have := refLog_l hh.1 (logsR (chV (tabL x (lanesOf x))).2 i 8) (fun c hcm => by have := r1 c hcm; omega) (by omega) ⟨logAt (lanesOf x) i, 32⟩ _ 0 rfl (by omega)
  rw [if_pos rfl]
  exact this
def placesL (l : List Spn) : List Int := l.flatMap fun s => (List.range s.f1.toNat).map fun (k : Nat) => s.f0 + (k : Int)
theorem placesL_len (l : List Spn) : (placesL l).length = (l.map fun s => s.f1.toNat).sum := by
 unfold placesL
 induction l with
 | nil => rfl
 | cons s l ih => rw [List.flatMap_cons, List.length_append, ih, List.map_cons, List.sum_cons, List.length_map, List.length_range]
def scatL : List Int → List Int → List Int → List Int
 | x, p :: ps, w :: ws => scatL (if p < x.length then x.set p.toNat w else x) ps ws
 | x, _, _ => x
theorem scatL_ok : ∀ {ps ws x : List Int}, U64 x → U64 ws → U64 (scatL x ps ws) ∧ (scatL x ps ws).length = x.length
 | [], ws, x, hx, _ => by unfold scatL; exact ⟨hx, rfl⟩
 | _ :: _, [], x, hx, _ => ⟨hx, rfl⟩
 | p :: ps, w :: ws, x, hx, hw => by
  rw [scatL]
  have h1 : U64 (if p < x.length then x.set p.toNat w else x) := by
   split
   ·exact U64_set hx _ _ (hw w List.mem_cons_self)
   ·exact hx
  have h2 : (if p < x.length then x.set p.toNat w else x).length = x.length := by split <;> simp
  obtain ⟨r1, r2⟩ := scatL_ok (ps := ps) (ws := ws) h1 (fun y hy => hw y (List.mem_cons_of_mem _ hy))
  exact ⟨r1, r2.trans h2⟩
theorem refPlaces9 (l : List Spn) (hl : ∀ s ∈ l, 0 ≤ s.f0 ∧ s.f0 ≤ 1073741824 ∧ 0 ≤ s.f1 ∧ s.f1 ≤ 1048576) (hll : l.length ≤ 16777216) (i : Nat) (hi : i < l.length) (acc : List Int) (hac : acc.length ≤ 274877906944) {r : List Int}
  (h : Evt (fun k => r14_Places.c4 k l ((i + 1 : Nat) : Int) (acc ++ (List.range l[i].f1.toNat).map fun (k : Nat) => l[i].f0 + (k : Int))) r) : ∀ (d j : Nat), l[i].f1.toNat - j = d → j ≤ l[i].f1.toNat →
  Evt (fun k => r14_Places.c9 k l (i : Int) (j : Int) (acc ++ (List.range j).map fun (k : Nat) => l[i].f0 + (k : Int))) r := by
 have hs := hl _ (List.getElem_mem hi)
 intro d
 induction d with
 | zero =>
  intro j hd hj
  obtain rfl : j = l[i].f1.toNat := by omega
  exact Evt.step (fun k => by rw [r14_Places.c9, if_pos (by omega), if_pos (by omega), gd l i _ hi, if_neg (by rw [decide_eq_true_eq]; omega), i64w (by omega) (by omega)]; rfl) h
 | succ d ih =>
  intro j hd hj
  have hn := ih (j + 1) (by omega) (by omega)
  rw [List.range_succ, List.map_append, ← List.append_assoc] at hn
  refine Evt.step (fun k => ?_) hn
  rw [r14_Places.c9, if_pos (by omega), if_pos (by omega), gd l i _ hi, if_pos (decide_eq_true (by omega)), if_pos (by omega), if_pos (by omega), if_pos (by simp only [List.length_append, List.length_map, List.length_range, List.length_cons, List.length_nil]; unfold big; omega), i64w (x := (j : Int) + 1) (by omega) (by omega), i64w (x := l[i].f0 + (j : Int)) (by omega) (by omega)]
  rfl
theorem refPlaces_l (l : List Spn) (hl : ∀ s ∈ l, 0 ≤ s.f0 ∧ s.f0 ≤ 1073741824 ∧ 0 ≤ s.f1 ∧ s.f1 ≤ 1048576) (hll : l.length ≤ 16777216) (hsum : (placesL l).length ≤ 274877906944) : ∀ (d i : Nat), l.length - i = d → i ≤ l.length →
  Evt (fun k => r14_Places.c4 k l (i : Int) (placesL (l.take i))) (placesL l) := by
 intro d
 induction d with
 | zero =>
  intro i hd hi
  obtain rfl : i = l.length := by omega
  rw [List.take_length]
  exact Evt.step (f := fun _ => some _) (fun k => by rw [r14_Places.c4, if_neg (by simp)]) (Evt.some _)
 | succ d ih =>
  intro i hd hi
  have hlt : i < l.length := by omega
  have hn := ih (i + 1) (by omega) (by omega)
  have ht : placesL (l.take (i + 1)) = placesL (l.take i) ++ (List.range l[i].f1.toNat).map fun (k : Nat) => l[i].f0 + (k : Int) := by
   rw [List.take_succ_eq_append_getElem hlt]
   unfold placesL
   rw [List.flatMap_append]
   simp
  rw [ht] at hn
  have hle : (placesL (l.take i)).length ≤ (placesL l).length := by
   have e : placesL l = placesL (l.take i) ++ placesL (l.drop i) := by
    unfold placesL
    rw [← List.flatMap_append, List.take_append_drop]
   rw [e, List.length_append]
   omega
  refine Evt.step (fun k => ?_) (refPlaces9 l hl hll i hlt (placesL (l.take i)) (by omega) hn l[i].f1.toNat 0 (by omega) (by omega))
  rw [r14_Places.c4, if_pos (decide_eq_true (by omega))]
  simp
theorem refScat_l (words ps : List Int) (hps : ∀ p ∈ ps, 0 ≤ p) (hl : words.length ≤ 274877906944) : ∀ (d i : Nat) (x : List Int), min ps.length words.length - i = d → i ≤ min ps.length words.length →
  Evt (fun k => r14_Scatter.c5 k words (i : Int) x ps) (scatL x (ps.drop i) (words.drop i)) := by
 intro d
 induction d with
 | zero =>
  intro i x hd hi
  by_cases hp : i < ps.length
  ·have hw : i = words.length := by omega
   subst hw
   rw [List.drop_length]
   refine (Evt.step (f := fun _ => some x) (fun k => by rw [r14_Scatter.c5, if_pos (decide_eq_true (by omega)), if_neg (by simp)]) (Evt.some _)).eq ?_
   cases ps.drop words.length <;> rfl
  ·have hpl : i = ps.length := by omega
   subst hpl
   rw [List.drop_length]
   exact (Evt.step (f := fun _ => some x) (fun k => by rw [r14_Scatter.c5, if_neg (by simp)]) (Evt.some _)).eq (by unfold scatL; rfl)
 | succ d ih =>
  intro i x hd hi
  have h1 : i < ps.length := by omega
  have h2 : i < words.length := by omega
  have hp := hps _ (List.getElem_mem h1)
  have hn := ih (i + 1) (if ps[i] < x.length then x.set ps[i].toNat words[i] else x) (by omega) (by omega)
  rw [List.drop_eq_getElem_cons h1, List.drop_eq_getElem_cons h2, scatL]
  have h8 : Evt (fun k => r14_Scatter.c8 k words (i : Int) (if ps[i] < x.length then x.set ps[i].toNat words[i] else x) ps) (scatL (if ps[i] < x.length then x.set ps[i].toNat words[i] else x) (ps.drop (i + 1)) (words.drop (i + 1))) :=
   Evt.step (fun k => by rw [r14_Scatter.c8, i64w (by omega) (by omega)]; rfl) hn
  refine Evt.step (fun k => ?_) h8
  rw [r14_Scatter.c5, if_pos (decide_eq_true (by omega)), if_pos (decide_eq_true (by omega)), if_pos (by omega), if_pos (by omega), if_pos (by omega), gd ps i _ h1, gd words i _ h2]
  by_cases hx : ps[i] < x.length
  ·rw [if_pos (decide_eq_true hx), if_pos (by omega), if_pos (by omega), if_pos (by omega), if_pos (by omega), if_pos (by omega), if_pos (by omega), if_pos hx, if_pos (by omega), if_pos hx]
  ·rw [if_neg (by simpa using hx), if_neg hx]
theorem refScatter_eq (x : List Int) (hx : x.length ≤ 1048576) (l : List Spn) (hl : ∀ s ∈ l, 0 ≤ s.f0 ∧ s.f0 ≤ 1073741824 ∧ 0 ≤ s.f1 ∧ s.f1 ≤ 1048576) (hll : l.length ≤ 16777216) (hsum : (placesL l).length ≤ 274877906944) (words : List Int) (hw : words.length ≤ 274877906944) :
  Evt (fun k => r14_Scatter.f k x l words) (scatL x (placesL l) words) := by
 unfold r14_Scatter.f
 refine Evt.congr (f := fun k => (r14_Places.f k l).bind fun y0 => r14_Scatter.c5 k words 0 x y0) ?_ (fun k => by rw [if_pos (by unfold big; omega), List.nil_append])
 refine Evt.bind (refPlaces_l l hl hll hsum l.length 0 (by omega) (by omega)) ?_
 refine refScat_l words (placesL l) (fun p hp => ?_) hw _ 0 x rfl (by omega)
 unfold placesL at hp
 rw [List.mem_flatMap] at hp
 obtain ⟨s, hs, hp⟩ := hp
 rw [List.mem_map] at hp
 obtain ⟨k, _, rfl⟩ := hp
 have := hl s hs
 omega
end Go.Proofs.YtbbpcbjgekencaaGreatDoor.PS
end
section
set_option linter.unusedVariables false
set_option linter.unusedSimpArgs false
set_option linter.unusedVariables false
set_option linter.unusedSimpArgs false
namespace Go.Proofs.YtbbpcbjgekencaaGreatDoor.PS
open Go Go.Proofs.YtbbpcbjgekencaaGreatDoor.Q Go.Proofs.YtbbpcbjgekencaaGreatDoor.FT Go.Proofs.YtbbpcbjgekencaaGreatDoor.Ev
abbrev Obj := S64
section
variable {x : List Int} {l : Int}
def dataAt (x : List Int) (a s : Int) : List Int := List.take s.toNat (List.drop (a + 2).toNat x)
def objOf (x : List Int) (l : Int) (b : Blk) : Obj := ⟨⟨placeG (x.length : Int) l b, (hdV x l b).1, (hdV x l b).2.2.1⟩, dataAt x (placeG (x.length : Int) l b) (hdV x l b).2.1⟩
noncomputable def objsL (x : List Int) : List Obj := if soundV x = true then (bsV x (lanesOf x)).map (objOf x (lanesOf x)) else []
theorem objV_ok : ∀ (bs : List Blk) (S : List Int), objV x l S bs = true → ∀ b ∈ bs, (hdV x l b).2.2.2 = true
 | [], _, _, _, hb => by cases hb
 | c :: bs, S, h, b, hb => by
  rw [objV] at h
  simp only [Bool.and_eq_true] at h
  rcases List.mem_cons.mp hb with rfl | hb
  ·exact h.1
  ·exact objV_ok bs _ h.2.2.2 b hb
theorem hd_size (b : Blk) (h : (hdV x l b).2.2.2 = true) : 0 ≤ (hdV x l b).2.1 ∧ (hdV x l b).2.1 + 2 ≤ b.f2 ∧ (hdV x l b).2.1 ≤ 4096 := by
 unfold hdV mkH at h ⊢
 simp only [Bool.and_eq_true, beq_iff_eq] at h ⊢
 have hz := headT_size _ _ h.1
 have hr := h.2
 unfold roomS blockS chunksS at hr
 refine ⟨hz.1, ?_, hz.2.1⟩
 rw [← hr]
 have a := hz.1
 have c := hz.2.1
 split <;> split <;> (try split) <;> (try split) <;> omega
theorem sound_parts (h : soundV x = true) : Geo (x.length : Int) (lanesOf x) ∧ tilesV x (lanesOf x) = true ∧ (∀ b ∈ bsV x (lanesOf x), (hdV x (lanesOf x) b).2.2.2 = true) := by
 unfold soundV restV objsV at h
 simp only [Bool.and_eq_true, decide_eq_true_eq] at h
 exact ⟨h.1.1, h.2.2.1, objV_ok _ _ h.2.2.2.1.1⟩
theorem objs_l (hx : U64 x) (h : Geo (x.length : Int) l) (bs : List Blk) (hlen : bs.length ≤ 1048576) (hb : ∀ b ∈ bs, (BlkIn (chunksG (x.length : Int) l) b ∧ SzOk b) ∧ (hdV x l b).2.2.2 = true) : ∀ (d i : Nat) (acc : List Obj), bs.length - i = d → i ≤ bs.length → acc.length = i →
  Evt (fun k => sound_Objects.c8 k (bs.length : Int) (i : Int) x (x.length : Int) l acc bs) (acc ++ (bs.drop i).map (objOf x l)) := by
 have hl := h.l
 intro d
 induction d with
 | zero =>
  intro i acc hd hi ha
  obtain rfl : i = bs.length := by omega
  rw [List.drop_length, List.map_nil, List.append_nil]
  exact Evt.step (f := fun _ => some acc) (fun k => by rw [sound_Objects.c8, if_neg (by simp)]) (Evt.some _)
 | succ d ih =>
  intro i acc hd hi ha
  have hlt : i < bs.length := by omega
  have hbi := hb _ (List.getElem_mem hlt)
  have hf := place_fit h hbi.1.1
  have hs := hd_size _ hbi.2
  have hn := ih (i + 1) (acc ++ [objOf x l bs[i]]) (by omega) (by omega) (by simp [ha])
  rw [List.drop_eq_getElem_cons hlt, List.map_cons, ← List.singleton_append, ← List.append_assoc]
  refine Evt.step (fun k => ?_) hn
  have htk : List.take ((x.length : Int)).toNat x = x := by rw [Int.toNat_natCast, List.take_length]
  have hdl : ((List.drop (placeG (x.length : Int) l bs[i] + 2).toNat x).length : Int) = x.length - (placeG (x.length : Int) l bs[i] + 2) := by rw [List.length_drop]; omega
  rw [sound_Objects.c8, if_pos (decide_eq_true (by omega)), if_pos (by omega), if_pos (by omega), if_pos (by omega), gd bs i _ hlt, header_eq k x l _ hx h hbi.1.1, Option.bind_some, place_eq k _ l _ h hbi.1.1, Option.bind_some]
  rw [i64w (x := placeG (x.length : Int) l bs[i] + 2) (by omega) (by omega), htk, if_pos (by omega), if_pos (by omega), if_pos (by omega), if_pos hs.1, if_pos (by omega)]
  unfold oid_Name.f
  rw [Option.bind_some]
  have hdata : List.drop (Int.toNat 0) (List.take (hdV x l bs[i]).2.1.toNat (List.drop (placeG (x.length : Int) l bs[i] + 2).toNat x)) = dataAt x (placeG (x.length : Int) l bs[i]) (hdV x l bs[i]).2.1 := rfl
  rw [hdata]
  have hdlen : (dataAt x (placeG (x.length : Int) l bs[i]) (hdV x l bs[i]).2.1).length ≤ 4096 := by unfold dataAt; rw [List.length_take]; omega
  rw [if_pos (by unfold big; omega), if_pos (by rw [List.length_singleton]; exact big_le2 (by omega)), i64w (by omega) (by omega)]
  rfl
theorem objects_eqL (hx : U64 x) (hlen : x.length ≤ 1048576) : Evt (fun k => sound_Objects.f k x) (objsL x) := by
 unfold sound_Objects.f
 refine Evt.bind (openE hx hlen) ?_
 unfold openV objsL
 cases hs : soundV x with
 | false => exact Evt.congr (Evt.some []) (fun k => by simp)
 | true =>
  obtain ⟨hg, ht, ho⟩ := sound_parts hs
  refine Evt.congr (f := fun k => (sound_pool_table.f k x (x.length : Int) (lanesOf x)).bind fun y1 => (tile_Blocks.f k y1).bind fun y2 => sound_Objects.c8 k (y2.length : Int) 0 x (x.length : Int) (lanesOf x) [] y2) ?_ (fun k => by simp)
  refine Evt.bind (Evt.of fun k => table_eq k x _ hg) ?_
  refine Evt.bind (a := bsV x (lanesOf x)) (blocks_eq _ (tab_len hlen hg) (tabL_U64 x _ hx)) ?_
  have := objs_l hx hg (bsV x (lanesOf x)) (by have := bs_len hlen hg; omega) (fun b hb => ⟨bs_in hx hg hlen ht b hb, ho b hb⟩) _ 0 [] rfl (Nat.zero_le _) rfl
  simpa using this
theorem refObjs_l (hx : U64 x) (h : Geo (x.length : Int) l) (bs : List Blk) (hlen : bs.length ≤ 1048576) (hb : ∀ b ∈ bs, (BlkIn (chunksG (x.length : Int) l) b ∧ SzOk b) ∧ (hdV x l b).2.2.2 = true) : ∀ (d i : Nat) (acc : List Obj), bs.length - i = d → i ≤ bs.length → acc.length = i →
  Evt (fun k => r16_Objects.c10 k x (i : Int) (x.length : Int) l bs acc) (acc ++ (bs.drop i).map (objOf x l)) := by
 have hl := h.l
 intro d
 induction d with
 | zero =>
  intro i acc hd hi ha
  obtain rfl : i = bs.length := by omega
  rw [List.drop_length, List.map_nil, List.append_nil]
  exact Evt.step (f := fun _ => some acc) (fun k => by rw [r16_Objects.c10, if_neg (by simp)]) (Evt.some _)
 | succ d ih =>
  intro i acc hd hi ha
  have hlt : i < bs.length := by omega
  have hbi := hb _ (List.getElem_mem hlt)
  have hf := place_fit h hbi.1.1
  have hs := hd_size _ hbi.2
  have hn := ih (i + 1) (acc ++ [objOf x l bs[i]]) (by omega) (by omega) (by simp [ha])
  rw [List.drop_eq_getElem_cons hlt, List.map_cons, ← List.singleton_append, ← List.append_assoc]
  have hE : Evt (fun k => (r16_Header.f k x (x.length : Int) l bs[i].f0 bs[i].f1 bs[i].f2).bind fun y5 => (r16_Place.f k (x.length : Int) l bs[i].f0 bs[i].f1 bs[i].f2).bind fun y6 => (if 0 ≤ IntKind.i64.wrap (y6 + 2) then (if IntKind.i64.wrap (y6 + 2) ≤ IntKind.i64.wrap (IntKind.i64.wrap (y6 + 2) + y5.snd.fst) then (if IntKind.i64.wrap (IntKind.i64.wrap (y6 + 2) + y5.snd.fst) ≤ (↑x.length : Int) then (if 0 + (List.drop (IntKind.i64.wrap (y6 + 2)).toNat (List.take (IntKind.i64.wrap (IntKind.i64.wrap (y6 + 2) + y5.snd.fst)).toNat x)).length ≤ big then (if acc.length + [S64.mk (S42.mk y6 y5.fst y5.snd.snd.fst) ([] ++ List.drop (IntKind.i64.wrap (y6 + 2)).toNat (List.take (IntKind.i64.wrap (IntKind.i64.wrap (y6 + 2) + y5.snd.fst)).toNat x))].length ≤ big then (r16_Objects.c10 k x ((i + 1 : Nat) : Int) (x.length : Int) l bs (acc ++ [S64.mk (S42.mk y6 y5.fst y5.snd.snd.fst) ([] ++ List.drop (IntKind.i64.wrap (y6 + 2)).toNat (List.take (IntKind.i64.wrap (IntKind.i64.wrap (y6 + 2) + y5.snd.fst)).toNat x))])) else none) else none) else none) else none) else none))
    (acc ++ [objOf x l bs[i]] ++ (bs.drop (i + 1)).map (objOf x l)) := by
   refine Evt.bind (refHeader_eq x l _ hx h hbi.1.1 hbi.1.2) ?_
   refine Evt.bind (Evt.at 2000 fun k => refPlace_eq k _ l _ h hbi.1.1) ?_
   refine Evt.congr hn (fun k => ?_)
   rw [i64w (x := placeG (x.length : Int) l bs[i] + 2) (by omega) (by omega), i64w (x := placeG (x.length : Int) l bs[i] + 2 + _) (by omega) (by omega), if_pos (by omega), if_pos (by omega), if_pos (by omega)]
   have hdata : List.drop (placeG (x.length : Int) l bs[i] + 2).toNat (List.take (placeG (x.length : Int) l bs[i] + 2 + (hdV x l bs[i]).2.1).toNat x) = dataAt x (placeG (x.length : Int) l bs[i]) (hdV x l bs[i]).2.1 := by
    unfold dataAt
    rw [List.drop_take]
    congr 1
    omega
   rw [hdata]
   have hdlen : (dataAt x (placeG (x.length : Int) l bs[i]) (hdV x l bs[i]).2.1).length ≤ 4096 := by unfold dataAt; rw [List.length_take]; omega
   rw [if_pos (by unfold big; omega), if_pos (by rw [List.length_singleton]; exact big_le2 (by omega))]
   rfl
  refine Evt.step (fun k => ?_) hE
  rw [r16_Objects.c10, if_pos (decide_eq_true (by omega)), if_pos (by omega), if_pos (by omega), if_pos (by omega), gd bs i _ hlt, i64w (x := (i : Int) + 1) (by omega) (by omega)]
  congr 1
  funext y
  rw [if_pos (by omega), if_pos (by omega), if_pos (by omega)]
  rfl
theorem refObjects_eq (hx : U64 x) (hlen : x.length ≤ 1048576) : Evt (fun k => r16_Objects.f k x) (objsL x) := by
 unfold r16_Objects.f
 refine Evt.bind (refSound_eq hx hlen) ?_
 unfold errV objsL
 cases hs : soundV x with
 | false => exact Evt.congr (Evt.some []) (fun k => by simp)
 | true =>
  obtain ⟨hg, ht, ho⟩ := sound_parts hs
  have hh : HeadOk x (lanesOf x) := by
   unfold soundV at hs
   simp only [Bool.and_eq_true, decide_eq_true_eq] at hs
   exact hs.1
  refine Evt.congr (f := fun k => (r06_Decode.f k x).bind fun y1 => (r05_Table.f k y1.fst y1.snd.fst).bind fun y2 => (r15_Part.f k x y2.fst y2.snd).bind fun y3 => (r11_Blocks.f k y3).bind fun y4 => r16_Objects.c10 k x 0 y1.fst y1.snd.fst y4 []) ?_ (fun k => by rw [if_neg (by simp)])
  refine Evt.bind (refSuper_eq x hx hlen) ?_
  unfold superT
  rw [if_pos hh]
  refine Evt.bind (Evt.at 2000 fun k => refTable_eq k _ _ hg) ?_
  refine Evt.bind (Evt.of fun k => part_eq k x _ hg) ?_
  refine Evt.bind (a := bsV x (lanesOf x)) (refBlocks_eq _ (tab_len hlen hg) (tabL_U64 x _ hx)) ?_
  have := refObjs_l hx hg (bsV x (lanesOf x)) (by have := bs_len hlen hg; omega) (fun b hb => ⟨bs_in hx hg hlen ht b hb, ho b hb⟩) _ 0 [] rfl (Nat.zero_le _) rfl
  simpa using this
noncomputable def oidOf (o : Obj) : Int × Int × Int := (o.f0.f0, o.f0.f1, o.f0.f2)
noncomputable def rootGo (r : Int) : List Obj → Int × Int × Int
 | [] => (0, 0, 0)
 | o :: os => if o.f0.f0 = r then oidOf o else rootGo r os
noncomputable def rootL (x : List Int) : Int × Int × Int := rootGo (wd x 8) (objsL x)
theorem objs_at (hx : U64 x) (hlen : x.length ≤ 1048576) (os : List Obj) (ho : os = objsL x) : (os ≠ [] → 8 < x.length) ∧ os.length ≤ 600000 ∧ ∀ o ∈ os, 0 ≤ o.f0.f0 ∧ o.f0.f0 < 1048576 := by
 subst ho
 unfold objsL
 cases hs : soundV x with
 | false => simp
 | true =>
  obtain ⟨hg, ht, _⟩ := sound_parts hs
  have hl := hg.l
  have hgg : 1 ≤ chunksG (x.length : Int) (lanesOf x) := hg
  rw [if_pos rfl]
  refine ⟨fun _ => by omega, by rw [List.length_map]; exact bs_len hlen hg, fun o h => ?_⟩
  rw [List.mem_map] at h
  obtain ⟨b, hb, rfl⟩ := h
  have hbi := bs_in hx hg hlen ht b hb
  have hf := place_fit hg hbi.1
  have hw := hbi.1.w0
  show 0 ≤ placeG (x.length : Int) (lanesOf x) b ∧ placeG (x.length : Int) (lanesOf x) b < 1048576
  omega
theorem rootI_l (os : List Obj) (h8 : os ≠ [] → 8 < x.length) (hlen : os.length ≤ 600000) (ho : ∀ o ∈ os, 0 ≤ o.f0.f0 ∧ o.f0.f0 < 1048576) : ∀ (d i : Nat), os.length - i = d → i ≤ os.length →
  Evt (fun k => sound_Root.c3 k x (os.length : Int) (i : Int) os) (rootGo (wd x 8) (os.drop i)) := by
 intro d
 induction d with
 | zero =>
  intro i hd hi
  obtain rfl : i = os.length := by omega
  rw [List.drop_length, rootGo]
  exact Evt.step (f := fun _ => some (0, 0, 0)) (fun k => by rw [sound_Root.c3, if_neg (by simp)]) (Evt.some _)
 | succ d ih =>
  intro i hd hi
  have hlt : i < os.length := by omega
  have h8' : 8 < x.length := h8 (fun h => by rw [h] at hlt; simp at hlt)
  have hoi := ho _ (List.getElem_mem hlt)
  rw [List.drop_eq_getElem_cons hlt, rootGo]
  have hs : ∀ k, sound_Root.c3 (k + 1) x (os.length : Int) (i : Int) os = if (os[i].f0.f0 == wd x 8) = true then some (oidOf os[i]) else sound_Root.c3 k x (os.length : Int) ((i + 1 : Nat) : Int) os := fun k => by
   rw [sound_Root.c3, if_pos (decide_eq_true (by omega)), if_pos (by omega), if_pos (by omega), if_pos (by omega), if_pos (by omega), gd os i _ hlt, u64w (by omega) (by omega), i64w (by omega) (by omega)]
   rfl
  by_cases he : os[i].f0.f0 = wd x 8
  ·rw [if_pos he]
   exact Evt.step (f := fun _ => some (oidOf os[i])) (fun k => by rw [hs, if_pos (by simpa using he)]) (Evt.some _)
  ·rw [if_neg he]
   exact Evt.step (fun k => by rw [hs, if_neg (by simpa using he)]) (ih (i + 1) (by omega) (by omega))
theorem rootR_l (os : List Obj) (h8 : os ≠ [] → 8 < x.length) (hlen : os.length ≤ 600000) (ho : ∀ o ∈ os, 0 ≤ o.f0.f0 ∧ o.f0.f0 < 1048576) : ∀ (d i : Nat), os.length - i = d → i ≤ os.length →
  Evt (fun k => r16_Root.c4 k x (i : Int) os) (rootGo (wd x 8) (os.drop i)) := by
 intro d
 induction d with
 | zero =>
  intro i hd hi
  obtain rfl : i = os.length := by omega
  rw [List.drop_length, rootGo]
  exact Evt.step (f := fun _ => some (0, 0, 0)) (fun k => by rw [r16_Root.c4, if_neg (by simp)]) (Evt.some _)
 | succ d ih =>
  intro i hd hi
  have hlt : i < os.length := by omega
  have h8' : 8 < x.length := h8 (fun h => by rw [h] at hlt; simp at hlt)
  have hoi := ho _ (List.getElem_mem hlt)
  rw [List.drop_eq_getElem_cons hlt, rootGo]
  by_cases he : os[i].f0.f0 = wd x 8
  ·rw [if_pos he]
   refine Evt.step (f := fun _ => some (oidOf os[i])) (fun k => ?_) (Evt.some _)
   rw [r16_Root.c4, if_pos (decide_eq_true (by omega)), if_pos (by omega), if_pos (by omega), if_pos (by omega), if_pos (by omega), gd os i _ hlt, u64w (by omega) (by omega), if_pos (by show (wd x 8 == os[i].f0.f0) = true; simpa using he.symm), if_pos (by omega), if_pos (by omega), if_pos (by omega)]
   rfl
  ·rw [if_neg he]
   refine Evt.step (fun k => ?_) (ih (i + 1) (by omega) (by omega))
   rw [r16_Root.c4, if_pos (decide_eq_true (by omega)), if_pos (by omega), if_pos (by omega), if_pos (by omega), if_pos (by omega), gd os i _ hlt, u64w (by omega) (by omega), if_neg (by show ¬ (wd x 8 == os[i].f0.f0) = true; simp; exact fun h => he h.symm), i64w (by omega) (by omega)]
   rfl
theorem root_eqL (hx : U64 x) (hlen : x.length ≤ 1048576) : Evt (fun k => sound_Root.f k x) (rootL x) := by
 obtain ⟨h8, hl, ho⟩ := objs_at hx hlen _ rfl
 unfold sound_Root.f
 refine Evt.bind (objects_eqL hx hlen) ?_
 exact rootI_l (objsL x) h8 hl ho _ 0 rfl (Nat.zero_le _)
theorem refRoot_eqL (hx : U64 x) (hlen : x.length ≤ 1048576) : Evt (fun k => r16_Root.f k x) (rootL x) := by
 obtain ⟨h8, hl, ho⟩ := objs_at hx hlen _ rfl
 unfold r16_Root.f
 refine Evt.bind (refObjects_eq hx hlen) ?_
 exact rootR_l (objsL x) h8 hl ho _ 0 rfl (Nat.zero_le _)
theorem words_l (a : List Int) (ha : a.length ≤ 1048576) : ∀ (d i : Nat), a.length - i = d → i ≤ a.length → Evt (fun k => r01_Words.c6 k a a (i : Int)) true := by
 intro d
 induction d with
 | zero =>
  intro i hd hi
  exact Evt.step (f := fun _ => some true) (fun k => by rw [r01_Words.c6, if_neg (by simp; omega)]) (Evt.some _)
 | succ d ih =>
  intro i hd hi
  exact Evt.step (fun k => by rw [r01_Words.c6, if_pos (decide_eq_true (by omega)), if_pos (by omega), if_pos (by omega), if_pos (by omega), if_pos (by omega), if_neg (by simp), i64w (by omega) (by omega)]; rfl) (ih (i + 1) (by omega) (by omega))
theorem words_same (a : List Int) (ha : a.length ≤ 1048576) : Evt (fun k => r01_Words.f k a a) true := by
 have := words_l a ha a.length 0 (by omega) (by omega)
 exact Evt.congr this (fun k => by unfold r01_Words.f; rw [if_neg (by simp)]; rfl)
theorem same_l (a : List Obj) (ha : a.length ≤ 1048576) (hd : ∀ o ∈ a, o.f1.length ≤ 1048576) : ∀ (d i : Nat), a.length - i = d → i ≤ a.length → Evt (fun k => r16_Same.c6 k a a (i : Int)) true := by
 intro d
 induction d with
 | zero =>
  intro i hd hi
  exact Evt.step (f := fun _ => some true) (fun k => by rw [r16_Same.c6, if_neg (by simp; omega)]) (Evt.some _)
 | succ d ih =>
  intro i hd' hi
  have hlt : i < a.length := by omega
  refine Evt.step (f := fun k => (r01_Words.f k a[i].f1 a[i].f1).bind fun y0 => (if (!y0) = true then (some false) else (r16_Same.c6 k a a ((i + 1 : Nat) : Int)))) (fun k => ?_) (Evt.bind (words_same _ (hd _ (List.getElem_mem hlt))) (Evt.congr (ih (i + 1) (by omega) (by omega)) (fun k => by rw [if_neg (by decide)])))
  rw [r16_Same.c6, if_pos (decide_eq_true (by omega)), if_pos (by omega), if_pos (by omega), if_pos (by omega), if_pos (by omega), gd a i _ hlt, if_pos (by simp), if_pos (by omega), if_pos (by omega), if_pos (by omega), if_pos (by omega), i64w (by omega) (by omega)]
  rfl
theorem same_eq (a : List Obj) (ha : a.length ≤ 1048576) (hd : ∀ o ∈ a, o.f1.length ≤ 1048576) : Evt (fun k => r16_Same.f k a a) true := by
 have := same_l a ha hd a.length 0 (by omega) (by omega)
 exact Evt.congr this (fun k => by unfold r16_Same.f; rw [if_neg (by simp)]; rfl)
theorem objs_data (hlen : x.length ≤ 1048576) : ∀ o ∈ objsL x, o.f1.length ≤ 1048576 := by
 intro o h
 unfold objsL at h
 split at h
 ·rw [List.mem_map] at h
  obtain ⟨b, hb, rfl⟩ := h
  show (dataAt x _ _).length ≤ _
  unfold dataAt
  rw [List.length_take, List.length_drop]
  omega
 ·cases h
end
end Go.Proofs.YtbbpcbjgekencaaGreatDoor.PS
end
section
set_option linter.unusedVariables false
set_option linter.unusedSimpArgs false
set_option linter.unusedVariables false
set_option maxRecDepth 100000
namespace Go.Proofs.YtbbpcbjgekencaaGreatDoor.PS
open Go Go.Proofs.YtbbpcbjgekencaaGreatDoor.Q Go.Proofs.YtbbpcbjgekencaaGreatDoor.FT Go.Proofs.YtbbpcbjgekencaaGreatDoor.Ev
theorem awake_k (k : Nat) : l16_awake.f (k + 700) = some true := by kernel_rfl
end Go.Proofs.YtbbpcbjgekencaaGreatDoor.PS
end
section
set_option linter.unusedVariables false
set_option linter.unusedSimpArgs false
set_option linter.unusedVariables false
set_option linter.unusedSimpArgs false
namespace Go.Proofs.YtbbpcbjgekencaaGreatDoor.PS
open Go Go.Proofs.YtbbpcbjgekencaaGreatDoor.Q Go.Proofs.YtbbpcbjgekencaaGreatDoor.FT Go.Proofs.YtbbpcbjgekencaaGreatDoor.Ev
def lo (b : Blk) : Int := 32 * b.f0 + b.f1 * b.f2
def hi (b : Blk) : Int := lo b + b.f2
end Go.Proofs.YtbbpcbjgekencaaGreatDoor.PS
end
section
set_option linter.unusedVariables false
set_option linter.unusedSimpArgs false
set_option linter.unusedVariables false
set_option linter.unusedSimpArgs false
namespace Go.Proofs.YtbbpcbjgekencaaGreatDoor.PS
open Go Go.Proofs.YtbbpcbjgekencaaGreatDoor.Q Go.Proofs.YtbbpcbjgekencaaGreatDoor.FT Go.Proofs.YtbbpcbjgekencaaGreatDoor.Ev
theorem geoW_rng (a b : Int) : Geo (geoW a b) (geoL a) ∧ chunksG (geoW a b) (geoL a) ≤ 8 ∧ geoW a b ≤ 1048576 ∧ 0 ≤ geoW a b := by
 have e := geoW_chunks a b
 refine ⟨?_, ?_, ?_, ?_⟩
 ·unfold Geo; rw [e]; unfold geoN; omega
 ·rw [e]; unfold geoN; omega
 ·unfold geoW geoL geoN; omega
 ·unfold geoW geoL geoN; omega
end Go.Proofs.YtbbpcbjgekencaaGreatDoor.PS
end
section
set_option linter.unusedVariables false
set_option linter.unusedSimpArgs false
set_option linter.unusedVariables false
set_option linter.unusedSimpArgs false
namespace Go.Proofs.YtbbpcbjgekencaaGreatDoor.PS
open Go Go.Proofs.YtbbpcbjgekencaaGreatDoor.Q Go.Proofs.YtbbpcbjgekencaaGreatDoor.FT Go.Proofs.YtbbpcbjgekencaaGreatDoor.Ev
theorem tells_end (k0 : Nat → Option Bool) {x : List Int} (hx : U64 x) (hlen : x.length ≤ 1048576)
  (h : ∀ k, k0 k = ((sound_Sound.f k x).bind fun y3 => ((r16_Sound.f k x).bind fun y4 => (if (y3 == y4) = true then ((sound_Objects.f k x).bind fun y5 => ((r16_Objects.f k x).bind fun y6 => ((r16_Same.f k y5 y6).bind fun y7 => (if y7 = true then ((sound_Root.f k x).bind fun y8 => ((r16_Root.f k x).bind fun y9 => (some (y8.fst == y9.fst && (y8.snd.fst == y9.snd.fst && y8.snd.snd == y9.snd.snd))))) else (some false))))) else (some false))))) : Evt k0 true := by
 refine Evt.congr ?_ h
 refine Evt.bind (sound_eq hx hlen) ?_
 refine Evt.bind (refSound_eq hx hlen) ?_
 have hos : (objsL x).length ≤ 1048576 := by have := (objs_at hx hlen _ rfl).2.1; omega
 refine Evt.congr (f := fun k => ((sound_Objects.f k x).bind fun y5 => ((r16_Objects.f k x).bind fun y6 => ((r16_Same.f k y5 y6).bind fun y7 => (if y7 = true then ((sound_Root.f k x).bind fun y8 => ((r16_Root.f k x).bind fun y9 => (some (y8.fst == y9.fst && (y8.snd.fst == y9.snd.fst && y8.snd.snd == y9.snd.snd))))) else (some false)))))) ?_ (fun k => by rw [if_pos (by simp)])
 refine Evt.bind (objects_eqL hx hlen) ?_
 refine Evt.bind (refObjects_eq hx hlen) ?_
 refine Evt.bind (same_eq _ hos (objs_data hlen)) ?_
 refine Evt.congr (f := fun k => ((sound_Root.f k x).bind fun y8 => ((r16_Root.f k x).bind fun y9 => (some (y8.fst == y9.fst && (y8.snd.fst == y9.snd.fst && y8.snd.snd == y9.snd.snd)))))) ?_ (fun k => by rw [if_pos rfl])
 refine Evt.bind (root_eqL hx hlen) ?_
 refine Evt.bind (refRoot_eqL hx hlen) ?_
 exact Evt.of fun k => by simp
abbrev Spl := S35
end Go.Proofs.YtbbpcbjgekencaaGreatDoor.PS
end
