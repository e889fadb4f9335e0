import Derived.Test.YtbbpcbjgekencaaGreatDoorM0
import Derived.Deep.Upon
import Derived.Great.BuildSlice
import Derived.Laws.AppendOwn
import Derived.Laws.Tables
import Derived.Tactics
section
set_option linter.unusedVariables false
set_option linter.unusedSimpArgs false
set_option linter.unusedVariables false
namespace Go.Proofs.YtbbpcbjgekencaaGreatDoor.Ev
open Go Go.RowKit
section
variable {T : Tab} {P : Program} {W : World} {O A : Nat → Prop} {E0 : Env} {E E' : Env} {B : Pv → Nat → Prop} {w w' : World}
theorem setAt_get {Γ : Sig} : ∀ (xs : List (CV Γ)) (l : List (CV Γ)) (o t : Nat), (setAt l o xs)[t]? = if o ≤ t ∧ t < o + xs.length ∧ t < l.length then xs[t - o]? else l[t]? := by
 intro xs
 induction xs with
 | nil => intro l o t; rw [if_neg (by simp; omega)]; rfl
 | cons x r ih =>
  intro l o t
  simp only [setAt]
  rw [ih]
  by_cases h1 : o + 1 ≤ t ∧ t < o + 1 + r.length ∧ t < (l.set o x).length
  ·rw [if_pos h1, List.length_set] at *
   have h1' := h1
   rw [if_pos (by simp; omega), show t - o = (t - (o + 1)) + 1 by omega, List.getElem?_cons_succ]
  ·rw [if_neg h1]
   rw [List.length_set] at h1
   rw [List.getElem?_set]
   by_cases h2 : o = t
   ·subst h2
    by_cases h3 : o < l.length
    ·rw [if_pos rfl, if_pos h3, if_pos (by simp; omega)]; simp
    ·rw [if_pos rfl, if_neg h3, if_neg (by simp; omega), List.getElem?_eq_none (by omega)]
   ·rw [if_neg h2, if_neg (by simp; omega)]
theorem setAt_length {Γ : Sig} : ∀ (xs : List (CV Γ)) (l : List (CV Γ)) (o : Nat), (setAt l o xs).length = l.length := by
 intro xs
 induction xs with
 | nil => intro l o; rfl
 | cons x r ih => intro l o; simp only [setAt]; rw [ih, List.length_set]
theorem foldSet_get : ∀ (us : List Value) (k : Nat) (vs : Array Value) (off t : Nat), ((us.zipIdx k).foldl (fun cs (c, j) => cs.setIfInBounds (off + j) c) vs)[t]? = if off + k ≤ t ∧ t < off + k + us.length ∧ t < vs.size then us[t - (off + k)]? else vs[t]? := by
 intro us
 induction us with
 | nil => intro k vs off t; rw [if_neg (by simp; omega)]; rfl
 | cons u r ih =>
  intro k vs off t
  rw [List.zipIdx_cons, List.foldl_cons, ih]
  simp only [Array.size_setIfInBounds, Array.getElem?_setIfInBounds]
  by_cases h1 : off + (k + 1) ≤ t ∧ t < off + (k + 1) + r.length ∧ t < vs.size
  ·rw [if_pos h1, if_pos (by simp; omega), show t - (off + k) = (t - (off + (k + 1))) + 1 by omega, List.getElem?_cons_succ]
  ·rw [if_neg h1]
   by_cases h2 : off + k = t
   ·subst h2
    by_cases h3 : off + k < vs.size
    ·rw [if_pos rfl, if_pos h3, if_pos (by simp; omega)]; simp
    ·rw [if_pos rfl, if_neg h3, if_neg (by simp; omega), Array.getElem?_eq_none (by omega)]
   ·rw [if_neg h2, if_neg (by simp; omega)]
theorem foldSet_size : ∀ (us : List Value) (k : Nat) (vs : Array Value) (off : Nat), ((us.zipIdx k).foldl (fun cs (c, j) => cs.setIfInBounds (off + j) c) vs).size = vs.size := by
 intro us
 induction us with
 | nil => intro k vs off; rfl
 | cons u r ih => intro k vs off; rw [List.zipIdx_cons, List.foldl_cons, ih]; simp
theorem foldSet_list (us vs : Array Value) (off : Nat) : us.zipIdx.foldl (fun cs (c, j) => cs.setIfInBounds (off + j) c) vs = (us.toList.zipIdx 0).foldl (fun cs (c, j) => cs.setIfInBounds (off + j) c) vs := by
 rw [← Array.foldl_toList]
 congr 1
 simp
theorem setAt_conc {cells l : List (CV T.Γ)} {vs us : Array Value} {off : Nat} (h1 : ConcL T E B w cells vs.toList) (h2 : ConcL T E B w l us.toList) :
  ConcL T E B w (setAt cells off l) (us.zipIdx.foldl (fun cs (c, j) => cs.setIfInBounds (off + j) c) vs).toList := by
 rw [foldSet_list]
 have e1 : vs.size = cells.length := by have := h1.1; simpa using this
 have e2 : us.size = l.length := by have := h2.1; simpa using this
 refine ⟨by rw [setAt_length, Array.length_toList, foldSet_size]; exact e1, fun j cv v hc hv => ?_⟩
 rw [setAt_get] at hc
 rw [Array.getElem?_toList, foldSet_get] at hv
 simp only [Nat.add_zero, Array.length_toList] at hv
 by_cases h : off ≤ j ∧ j < off + l.length ∧ j < cells.length
 ·rw [if_pos h] at hc
  rw [if_pos (by omega)] at hv
  exact h2.2 _ cv v hc hv
 ·rw [if_neg h] at hc
  rw [if_neg (by omega)] at hv
  exact h1.2 j cv v hc (by rw [Array.getElem?_toList]; exact hv)
theorem sizesOk_places (hT : TabOk T P) : ∀ (fs : List Field), sizesOk T fs = true → fs.mapM (fun f => (P.info? f.type).map fun i => (f.offset, i.size)) = some (fs.map fun f => (f.offset, (T.size f.type).getD 0)) := by
 intro fs
 induction fs with
 | nil => intro _; rfl
 | cons f r ih =>
  intro h
  simp only [sizesOk] at h
  split at h
  ·rename_i n hn
   have := hT.size _ _ hn
   cases hi : P.info? f.type with
   | none => rw [hi] at this; cases this
   | some i =>
    rw [hi] at this
    simp only [Option.map_some, Option.some.injEq] at this
    rw [List.mapM_cons]
    simp only [hi, Option.map_some, ih h, hn, List.map_cons, Option.getD_some, this]
    rfl
  ·cases h
theorem fillS_conc (hT : TabOk T P) {st : St T.Γ} {a : Act} (hR : Rel T W O A E0 E st a w) {fs : Array Field} :
  ∀ (ps : List (Nat × Operand)) (qs : List (Nat × AV T.Γ)) (cells cs : List (CV T.Γ)) (vs : Array Value), partsOf T st.eval ps = some qs → fillS T st.mem fs cells qs = some cs → ConcL T E (SB T W O A E st.mem w) w cells vs.toList →
   ∃ us : Array Value, Instr.fill (fun q => (fs.toList.map fun f => (f.offset, (T.size f.type).getD 0))[q]?) vs (ps.map fun (i, x) => (i, a.eval x)) = some us ∧ ConcL T E (SB T W O A E st.mem w) w cs us.toList := by
 intro ps
 induction ps with
 | nil =>
  intro qs cells cs vs h1 h2 h3
  simp only [partsOf, Option.some.injEq] at h1
  subst h1
  simp only [fillS, Option.some.injEq] at h2
  subst h2
  exact ⟨vs, rfl, h3⟩
 | cons p r ih =>
  obtain ⟨i, x⟩ := p
  intro qs cells cs vs h1 h2 h3
  simp only [partsOf] at h1
  split at h1
  ·rename_i v hv
   cases hq : partsOf T st.eval r with
   | none => rw [hq] at h1; cases h1
   | some q2 =>
    rw [hq] at h1
    simp only [Option.map_some, Option.some.injEq] at h1
    subst h1
    simp only [fillS] at h2
    split at h2
    ·rename_i f l hf hl
     split at h2
     ·rename_i hb
      simp only [Bool.and_eq_true, decide_eq_true_eq] at hb
      have hble : f.offset + l.length ≤ cells.length := by simpa using hb.2
      obtain ⟨hc, _, _⟩ := cellsOf_conc hT hR.mem hl (eval_conc hR hv)
      obtain ⟨us, hu, huc⟩ := ih q2 _ cs _ hq h2 (setAt_conc (off := f.offset) h3 hc)
      have e1 : (a.eval x).cells.size = l.length := by have := hc.1; simpa using this
      have e2 : vs.size = cells.length := by have := h3.1; simpa using this
      refine ⟨us, ?_, huc⟩
      simp only [List.map_cons, Instr.fill]
      rw [List.getElem?_map, Array.getElem?_toList, hf]
      simp only [Option.map_some, hb.1, Option.getD_some]
      rw [if_neg (by simp [e1]; omega)]
      exact hu
     ·cases h2
    ·cases h2
  ·cases h1
theorem build_ok (hT : TabOk T P) (S : FuncId → Option (FnS T.Γ)) (o : Oper) (t : TypeId) (parts : Array (Nat × Operand)) (ho : o.op = .build t parts) : ValOk T P S o := by
 intro W O A E0 k st E a w v mc hR h
 simp only [evalD, ho] at h
 split at h
 ·rename_i fs z ps hu hz hps
  split at h
  ·rename_i cs hsz hcs
   simp only [Option.some.injEq, Prod.mk.injEq] at h
   obtain ⟨rfl, rfl⟩ := h
   unfold zeroCells at hz
   split at hz
   ·rename_i zz hzz
    obtain ⟨i, zv, h1, h2, h3⟩ := hT.zero _ _ hzz
    obtain ⟨us, hu1, hu2⟩ := fillS_conc hT hR parts.toList ps z cs zv.cells hps hcs (by rw [h3]; exact ofCells_conc _ _ hz)
    refine ⟨rfl, .agg us, ?_, .t (.agg hu2)⟩
    simp only [execOp, ho]
    refine bind_value (a := a) ?_
    have hpl := run_places (P := P) w _ _ (sizesOk_places hT fs.toList hsz)
    have h' : Instr.fill (fun q : Nat => Option.map (fun f : Field => (f.offset, (T.size f.type).getD 0)) fs[q]?) zv.cells (List.map (fun x => (x.fst, a.eval x.snd)) parts.toList) = some us := by
     have : (fun q : Nat => Option.map (fun f : Field => (f.offset, (T.size f.type).getD 0)) fs[q]?) = fun q : Nat => (fs.toList.map fun f => (f.offset, (T.size f.type).getD 0))[q]? := by
      funext q
      rw [List.getElem?_map, Array.getElem?_toList]
     rw [this]
     exact hu1
    simp [Instr.build, run_underlying (hT.und _ _ hu), typeInfo, zeroValue, h1, h2, Array.mapM_eq_mapM_toList, hpl, h']
   ·cases hz
  ·cases h
 ·cases h
end
end Go.Proofs.YtbbpcbjgekencaaGreatDoor.Ev
end
section
set_option linter.unusedVariables false
set_option linter.unusedSimpArgs false
set_option linter.unusedVariables false
namespace Go.Proofs.YtbbpcbjgekencaaGreatDoor.Ev
open Go Go.RowKit
section
variable {T : Tab} {P : Program} {W : World} {O A : Nat → Prop} {E0 : Env} {E E' : Env} {B : Pv → Nat → Prop} {w w' : World}
inductive Chill (T : Tab) (m : Mem T.Γ) (fs : List (Nat × Option (Blk T.Γ))) : CV T.Γ → CV T.Γ → Prop
 | same (x : CV T.Γ) : Chill T m fs x x
 | row (s : Nat) (q : Bool) (e : TypeId) (l : List (T.Γ.el e).ty) (h : m.get s = some (.row q e l)) (hf : (s, some (.cold q e l)) ∈ fs) : Chill T m fs (.own s) (.sl (pvOf q) e l)
 | cold (s : Nat) (q : Bool) (e : TypeId) (l : List (T.Γ.el e).ty) (h : m.get s = some (.cold q e l)) : Chill T m fs (.own s) (.sl (pvOf q) e l)
 | of (s : Nat) (e : TypeId) (l : List (T.Γ.el e).ty) (q : Bool) (e' : TypeId) (l' : List (T.Γ.el e').ty) (h : (m.get s = some (.row q e' l') ∧ (s, some (.cold q e' l')) ∈ fs) ∨ m.get s = some (.cold q e' l')) : Chill T m fs (.sl (.of s) e l) (.sl .near e l)
 | mix (s : Nat) (e : TypeId) (l : List (T.Γ.el e).ty) (q : Bool) (e' : TypeId) (l' : List (T.Γ.el e').ty) (h : (m.get s = some (.row q e' l') ∧ (s, some (.cold q e' l')) ∈ fs) ∨ m.get s = some (.cold q e' l')) : Chill T m fs (.sl (.mix s) e l) (.sl .far e l)
theorem Chill.mono {m : Mem T.Γ} {fs gs : List (Nat × Option (Blk T.Γ))} {x y : CV T.Γ} (h : Chill T m fs x y) (hs : ∀ p ∈ fs, p ∈ gs) : Chill T m gs x y := by
 cases h with
 | same x => exact .same x
 | row s q e l h hf => exact .row s q e l h (hs _ hf)
 | cold s q e l h => exact .cold s q e l h
 | of s e l q e' l' h => exact .of s e l q e' l' (h.imp (fun h => ⟨h.1, hs _ h.2⟩) id)
 | mix s e l q e' l' h => exact .mix s e l q e' l' (h.imp (fun h => ⟨h.1, hs _ h.2⟩) id)
theorem chill_spec (m : Mem T.Γ) : ∀ (cs : List (CV T.Γ)), (∀ p ∈ (chill T m cs).2, ∃ s q e l, p = (s, some (.cold q e l)) ∧ m.get s = some (.row q e l)) ∧
  (chill T m cs).1.length = cs.length ∧ ∀ (j : Nat) x y, cs[j]? = some x → (chill T m cs).1[j]? = some y → Chill T m (chill T m cs).2 x y := by
 intro cs
 induction cs with
 | nil => exact ⟨fun p h => by simp [chill] at h, rfl, fun j x y h => by simp at h⟩
 | cons x r ih =>
  obtain ⟨i1, i2, i3⟩ := ih
  have keep : ∀ (y : CV T.Γ) (fs : List (Nat × Option (Blk T.Γ))), chill T m (x :: r) = (y :: (chill T m r).1, fs) → (∀ p ∈ (chill T m r).2, p ∈ fs) → (∀ p ∈ fs, p ∈ (chill T m r).2 ∨ ∃ s q e l, p = (s, some (.cold q e l)) ∧ m.get s = some (.row q e l)) → Chill T m fs x y →
    (∀ p ∈ (chill T m (x :: r)).2, ∃ s q e l, p = (s, some (.cold q e l)) ∧ m.get s = some (.row q e l)) ∧
    (chill T m (x :: r)).1.length = (x :: r).length ∧ ∀ (j : Nat) x' y', (x :: r)[j]? = some x' → (chill T m (x :: r)).1[j]? = some y' → Chill T m (chill T m (x :: r)).2 x' y' := by
   intro y fs he hsub hfs hxy
   rw [he]
   refine ⟨fun p hp => (hfs p hp).elim (i1 p) id, by simp [i2], fun j x' y' h1 h2 => ?_⟩
   cases j with
   | zero => simp at h1 h2; subst h1; subst h2; exact hxy
   | succ j => exact (i3 j x' y' (by simpa using h1) (by simpa using h2)).mono hsub
  have plain : chill T m (x :: r) = (x :: (chill T m r).1, (chill T m r).2) → _ := fun he => keep x _ he (fun p h => h) (fun p h => .inl h) (.same x)
  cases x with
  | own s =>
   cases hm : m.get s with
   | none => exact plain (by simp [chill, hm])
   | some b =>
    cases b with
    | row q e l => exact keep (.sl (pvOf q) e l) ((s, some (.cold q e l)) :: (chill T m r).2) (by simp [chill, hm]) (fun p h => List.mem_cons_of_mem _ h) (fun p h => by
      cases h with
      | head => exact .inr ⟨s, q, e, l, rfl, hm⟩
      | tail _ h => exact .inl h) (.row s q e l hm List.mem_cons_self)
    | cold q e l => exact keep (.sl (pvOf q) e l) (chill T m r).2 (by simp [chill, hm]) (fun p h => h) (fun p h => .inl h) (.cold s q e l hm)
    | box t cs => exact plain (by simp [chill, hm])
    | obj κ x => exact plain (by simp [chill, hm])
  | sl p e l =>
   cases p with
   | of s =>
    cases hm : m.get s with
    | none => exact plain (by simp [chill, hm])
    | some b =>
     cases b with
     | row q e' l' => exact keep (.sl .near e l) ((s, some (.cold q e' l')) :: (chill T m r).2) (by simp [chill, hm]) (fun p h => List.mem_cons_of_mem _ h) (fun p h => by
       cases h with
       | head => exact .inr ⟨s, q, e', l', rfl, hm⟩
       | tail _ h => exact .inl h) (.of s e l q e' l' (.inl ⟨hm, List.mem_cons_self⟩))
     | cold q e' l' => exact keep (.sl .near e l) (chill T m r).2 (by simp [chill, hm]) (fun p h => h) (fun p h => .inl h) (.of s e l q e' l' (.inr hm))
     | box t cs => exact plain (by simp [chill, hm])
     | obj κ x => exact plain (by simp [chill, hm])
   | mix s =>
    cases hm : m.get s with
    | none => exact plain (by simp [chill, hm])
    | some b =>
     cases b with
     | row q e' l' => exact keep (.sl .far e l) ((s, some (.cold q e' l')) :: (chill T m r).2) (by simp [chill, hm]) (fun p h => List.mem_cons_of_mem _ h) (fun p h => by
       cases h with
       | head => exact .inr ⟨s, q, e', l', rfl, hm⟩
       | tail _ h => exact .inl h) (.mix s e l q e' l' (.inl ⟨hm, List.mem_cons_self⟩))
     | cold q e' l' => exact keep (.sl .far e l) (chill T m r).2 (by simp [chill, hm]) (fun p h => h) (fun p h => .inl h) (.mix s e l q e' l' (.inr hm))
     | box t cs => exact plain (by simp [chill, hm])
     | obj κ x => exact plain (by simp [chill, hm])
   | near => exact plain (by simp [chill])
   | far => exact plain (by simp [chill])
  | _ => exact plain (by simp [chill])
theorem Chill.conc' (hT : TabOk T P) {st : St T.Γ} {a : Act} {m' : Mem T.Γ} {fs : List (Nat × Option (Blk T.Γ))} (hR : Rel T W O A E0 E st a w)
  (hno : ∀ g, g < w.heap.size → ¬ Own E st.mem g → ¬ Own E' m' g ∧ w'.heap[g]? = w.heap[g]?)
  (hfz : ∀ s q e l, (s, some (.cold q e l)) ∈ fs → ∀ g, OwnBy E st.mem s g → ¬ Own E' m' g ∧ w'.heap[g]? = w.heap[g]?)
  (hsz : w.heap.size ≤ w'.heap.size) {x y : CV T.Γ} {v : Value} (hxy : Chill T st.mem fs x y) (hy : (∃ u, y = .c u) ∨ ∃ p e l, y = .sl p e l ∧ p.sites = []) (hc : Conc T E (SB T W O A E st.mem w) w x v) :
  Conc T E' (SB T W O A E' m' w') w' y v := by
 have cells : ∀ {g : Nat}, w'.heap[g]? = w.heap[g]? → ∀ o u, w.cell? ⟨g, o, none⟩ = some u → w'.cell? ⟨g, o, none⟩ = some u := fun h o u hu => by
  simp only [World.cell?] at hu ⊢
  rw [h]
  exact hu
 have lt' : ∀ {p : Pv} {g : Nat}, SB T W O A E st.mem w p g → g < w'.heap.size := fun h => Nat.lt_of_lt_of_le h.lt hsz
 have near_ : ∀ g, SB T W O A E st.mem w .near g → SB T W O A E' m' w' .near g ∧ w'.heap[g]? = w.heap[g]? := fun g h => ⟨⟨lt' h, (hno g h.lt h.2.1).1, h.2.2⟩, (hno g h.lt h.2.1).2⟩
 have far_ : ∀ g, SB T W O A E st.mem w .far g → SB T W O A E' m' w' .far g ∧ w'.heap[g]? = w.heap[g]? := fun g h => ⟨⟨lt' h, (hno g h.lt h.2.1).1, h.2.2⟩, (hno g h.lt h.2.1).2⟩
 have view : ∀ (s : Nat) (q : Bool) (e : TypeId) (l : List (T.Γ.el e).ty), (st.mem.get s = some (.row q e l) ∧ (s, some (.cold q e l)) ∈ fs) ∨ st.mem.get s = some (.cold q e l) →
   (∀ g, SB T W O A E st.mem w (.of s) g → SB T W O A E' m' w' .near g ∧ w'.heap[g]? = w.heap[g]?) ∧ (∀ g, SB T W O A E st.mem w (.mix s) g → SB T W O A E' m' w' .far g ∧ w'.heap[g]? = w.heap[g]?) := by
  intro s q e l hs
  have own : ∀ g, OwnBy E st.mem s g → g < w.heap.size → (¬ Own E' m' g ∧ w'.heap[g]? = w.heap[g]?) ∧ (W.heap.size ≤ g ∨ O g) := by
   intro g ho hlt
   refine ⟨?_, hR.mine g ⟨s, ho⟩⟩
   rcases hs with hs | hs
   ·exact hfz s q e l hs.2 g ho
   ·obtain ⟨b, hb, hh, _⟩ := ho
    rw [hs] at hb
    cases hb
    cases hh
  refine ⟨fun g hg => ?_, fun g hg => ?_⟩
  ·rcases hg.2 with h | h
   ·exact ⟨⟨lt' hg, (hno g hg.lt h.1).1, h.2⟩, (hno g hg.lt h.1).2⟩
   ·obtain ⟨h1, h2⟩ := own g h hg.lt
    exact ⟨⟨lt' hg, h1.1, h2⟩, h1.2⟩
  ·rcases hg.2 with h | h
   ·exact ⟨⟨lt' hg, (hno g hg.lt h.1).1, h.2⟩, (hno g hg.lt h.1).2⟩
   ·obtain ⟨h1, h2⟩ := own g h hg.lt
    exact ⟨⟨lt' hg, h1.1, .inl h2⟩, h1.2⟩
 have to : ∀ {p p' : Pv} {e : TypeId} {l : List (T.Γ.el e).ty}, Conc T E (SB T W O A E st.mem w) w (.sl p e l) v → (∀ g, SB T W O A E st.mem w p g → SB T W O A E' m' w' p' g ∧ w'.heap[g]? = w.heap[g]?) → Conc T E' (SB T W O A E' m' w') w' (.sl p' e l) v := by
  intro p p' e l hc hp
  exact hc.tr (E' := E') (B' := SB T W O A E' m' w') (w' := w') (f := id) (h := fun _ => p') hT.stable ⟨fun s hs => by simp [CV.names] at hs, fun q hq g hg => by
   simp only [CV.pv, Option.some.injEq] at hq
   subst hq
   exact ⟨(hp g hg).1, cells (hp g hg).2⟩⟩
 cases hxy with
 | same x =>
  rcases hy with ⟨u, rfl⟩ | ⟨p, e, l, rfl, hp⟩
  ·cases hc; exact .c _
  ·cases p with
   | near => exact to hc near_
   | far => exact to hc far_
   | of s => cases hp
   | mix s => cases hp
 | row s q e l h hf =>
  generalize hv : CV.own (Γ := T.Γ) s = k at hc
  cases hc with
  | own s' =>
   simp only [CV.own.injEq] at hv
   subst hv
   have hsl : Conc T E (SB T W O A E st.mem w) w (.sl (viewOf q s) e l) (E.σ s) := row_sl (p := viewOf q s) hT (hR.mem.blk s _ h) (fun g hg hlt => by cases q <;> exact ⟨hlt, .inr ⟨_, h, rfl, hg⟩⟩) (fun g hg => by cases q; exact near_of hg; exact far_mix hg)
   cases q
   ·exact to hsl (view s false e l (.inl ⟨h, hf⟩)).1
   ·exact to hsl (view s true e l (.inl ⟨h, hf⟩)).2
  | _ => cases hv
 | cold s q e l h =>
  generalize hv : CV.own (Γ := T.Γ) s = k at hc
  cases hc with
  | own s' =>
   simp only [CV.own.injEq] at hv
   subst hv
   have hb := hR.mem.blk s _ h
   cases hb with
   | cold _ _ _ hcl =>
    cases q
    ·exact to hcl near_
    ·exact to hcl far_
  | _ => cases hv
 | of s e l q e' l' h => exact to hc (view s q e' l' h).1
 | mix s e l q e' l' h => exact to hc (view s q e' l' h).2
end
end Go.Proofs.YtbbpcbjgekencaaGreatDoor.Ev
end
section
set_option linter.unusedVariables false
set_option linter.unusedSimpArgs false
set_option linter.unusedVariables false
namespace Go.Proofs.YtbbpcbjgekencaaGreatDoor.Ev
open Go Go.RowKit
section
variable {T : Tab} {P : Program} {W : World} {O A : Nat → Prop} {E0 : Env} {E E' : Env} {B : Pv → Nat → Prop} {w w' : World}
theorem look_mem {Γ : Sig} : ∀ {l : List (Nat × Option (Blk Γ))} {s : Nat} {b : Option (Blk Γ)}, look l s = some b → (s, b) ∈ l := by
 intro l
 induction l with
 | nil => intro s b h; cases h
 | cons p r ih =>
  obtain ⟨q, x⟩ := p
  intro s b h
  simp only [look] at h
  split at h
  ·rename_i e
   cases h
   subst e
   exact List.mem_cons_self
  ·exact List.mem_cons_of_mem _ (ih h)
theorem look_some {Γ : Sig} : ∀ {l : List (Nat × Option (Blk Γ))} {s : Nat} {b : Option (Blk Γ)}, (s, b) ∈ l → (look l s).isSome = true := by
 intro l
 induction l with
 | nil => intro s b h; cases h
 | cons p r ih =>
  obtain ⟨q, x⟩ := p
  intro s b h
  simp only [look]
  by_cases e : q = s
  ·rw [if_pos e]; rfl
  ·rw [if_neg e]
   cases h with
   | head => exact absurd rfl e
   | tail _ h => exact ih h
structure One (T : Tab) (E E' : Env) (m : Mem T.Γ) (n : Nat) (fs : List (Nat × Option (Blk T.Γ))) (w w' : World) : Prop where
 env : ∀ s, s ≠ n → E'.ρ s = E.ρ s ∧ E'.σ s = E.σ s ∧ E'.φ s = E.φ s
 phi : ∀ g, E'.φ n g → w.heap.size ≤ g ∨ OwnBy E m n g
 heap : ∀ g, g < w.heap.size → ¬ OwnBy E m n g → w'.heap[g]? = w.heap[g]?
 os : w'.os = w.os
 tape : w'.tape = w.tape
 output : w'.output = w.output
 size : w.heap.size ≤ w'.heap.size
 cold : ∀ p ∈ fs, ∃ s q e l, p = (s, some (.cold q e l)) ∧ m.get s = some (.row q e l)
 other : ∀ p ∈ fs, p.1 ≠ n
theorem One.own {st : St T.Γ} {a : Act} {n : Nat} {b : Option (Blk T.Γ)} {fs : List (Nat × Option (Blk T.Γ))} (h : One T E E' st.mem n fs w w') {t g : Nat} (ho : OwnBy E' (st.mem.sets ((n, b) :: fs)) t g) :
  (t = n ∧ (w.heap.size ≤ g ∨ OwnBy E st.mem n g)) ∨ (t ≠ n ∧ look fs t = none ∧ OwnBy E st.mem t g) := by
 obtain ⟨b', hb', hh, hφ⟩ := ho
 rw [get_sets] at hb'
 simp only [look] at hb'
 by_cases e : n = t
 ·subst e
  exact .inl ⟨rfl, h.phi g hφ⟩
 ·rw [if_neg e] at hb'
  have e' : t ≠ n := fun h => e h.symm
  rw [(h.env t e').2.2] at hφ
  cases hl : look fs t with
  | none => rw [hl] at hb'; exact .inr ⟨e', rfl, b', hb', hh, hφ⟩
  | some x =>
   rw [hl] at hb'
   obtain ⟨s, q, e2, l, he, _⟩ := h.cold _ (look_mem hl)
   simp only [Prod.mk.injEq] at he
   obtain ⟨rfl, rfl⟩ := he
   have hb' : some (Blk.cold q e2 l) = some b' := hb'
   cases hb'
   cases hh
theorem One.no (hT : TabOk T P) {st : St T.Γ} {a : Act} {n : Nat} {b : Option (Blk T.Γ)} {fs : List (Nat × Option (Blk T.Γ))} (hR : Rel T W O A E0 E st a w) (h : One T E E' st.mem n fs w w') {g : Nat} (hlt : g < w.heap.size) (hn : ¬ Own E st.mem g) :
  ¬ Own E' (st.mem.sets ((n, b) :: fs)) g ∧ w'.heap[g]? = w.heap[g]? := by
 refine ⟨fun ⟨t, ho⟩ => ?_, h.heap g hlt (fun ho => hn ⟨n, ho⟩)⟩
 rcases h.own (a := a) ho with ⟨_, h1 | h1⟩ | ⟨_, _, h1⟩
 ·omega
 ·exact hn ⟨n, h1⟩
 ·exact hn ⟨t, h1⟩
theorem One.frozen (hT : TabOk T P) {st : St T.Γ} {a : Act} {n : Nat} {b : Option (Blk T.Γ)} {fs : List (Nat × Option (Blk T.Γ))} (hR : Rel T W O A E0 E st a w) (h : One T E E' st.mem n fs w w') {s : Nat} {c : Option (Blk T.Γ)} (hs : (s, c) ∈ fs) {g : Nat} (ho : OwnBy E st.mem s g) :
  ¬ Own E' (st.mem.sets ((n, b) :: fs)) g ∧ w'.heap[g]? = w.heap[g]? := by
 have hlt : g < w.heap.size := by
  obtain ⟨b, hb, hh, hφ⟩ := ho
  exact (hR.mem.blk s b hb).inside hT hh g hφ
 have hne : s ≠ n := h.other _ hs
 have hnn : ¬ OwnBy E st.mem n g := fun h2 => hne (hR.mem.apart s n g ho h2)
 refine ⟨fun ⟨t, ht⟩ => ?_, h.heap g hlt hnn⟩
 rcases h.own (a := a) ht with ⟨_, h1 | h1⟩ | ⟨_, h0, h1⟩
 ·omega
 ·exact hnn h1
 ·have := hR.mem.apart s t g ho h1
  subst this
  have := look_some hs
  rw [h0] at this
  cases this
theorem One.cell (hT : TabOk T P) {st : St T.Γ} {a : Act} {n : Nat} {b : Option (Blk T.Γ)} {fs : List (Nat × Option (Blk T.Γ))} (hR : Rel T W O A E0 E st a w) (h : One T E E' st.mem n fs w w') {x y : CV T.Γ} {v : Value} (hxy : Chill T st.mem fs x y)
  (hy : (∃ u, y = .c u) ∨ ∃ p e l, y = .sl p e l ∧ p.sites = []) (hc : Conc T E (SB T W O A E st.mem w) w x v) : Conc T E' (SB T W O A E' (st.mem.sets ((n, b) :: fs)) w') w' y v := by
 have key : ∀ (E'' : Env), E''.ρ = E'.ρ → E''.σ = E'.σ → True := fun _ _ _ => trivial
 exact Chill.conc' hT hR (fun g hlt hn => h.no hT hR hlt hn) (fun s q e l hf g ho => h.frozen hT hR hf ho) h.size hxy hy hc
theorem One.chg (hT : TabOk T P) {st : St T.Γ} {a : Act} {n : Nat} {b : Blk T.Γ} {fs : List (Nat × Option (Blk T.Γ))} {news writes : List Nat} (hR : Rel T W O A E0 E st a w) (h : One T E E' st.mem n fs w w')
  (hnw : (news = [n] ∧ writes = [] ∧ st.mem.get n = none) ∨ (news = [] ∧ writes = [n] ∧ E'.ρ n = E.ρ n ∧ E'.σ n = E.σ n ∧ E'.φ n = E.φ n))
  (hb : BlkOk T E' (SB T W O A E' (st.mem.sets ((n, some b) :: fs)) w') w' n b) : Chg T W O A E E' st.mem w w' ⟨(n, some b) :: fs, news, writes⟩ := by
 have lk : ∀ s, look ((n, some b) :: fs) s = if n = s then some (some b) else look fs s := fun s => rfl
 have cold : ∀ {s g}, s ≠ n → (look fs s).isSome = true → ¬ OwnBy E' (st.mem.sets ((n, some b) :: fs)) s g := by
  intro s g hne hs ho
  rcases h.own (a := a) ho with ⟨h1, _⟩ | ⟨_, h1, _⟩
  ·exact hne h1
  ·rw [h1] at hs; cases hs
 have isn : ∀ {s}, s ∈ news ∨ s ∈ writes → s = n := by
  intro s hs
  rcases hnw with ⟨rfl, rfl, _⟩ | ⟨rfl, rfl, _⟩ <;> simpa using hs
 refine ⟨fun s hs => ?_, fun s hs => ?_, fun s hs => ?_, h.os, h.tape, h.output, h.size, fun g hlt hg => h.heap g hlt ?_, fun s b' hs => ?_, fun s g hs ho => ?_, fun s s' g h1 h2 h3 h4 => ?_, fun s hs => ?_⟩
 ·rw [lk, if_pos (isn (.inl hs)).symm]; rfl
 ·rw [lk, if_pos (isn (.inr hs)).symm]; rfl
 ·by_cases e : s = n
  ·subst e
   rcases hnw with ⟨rfl, _, _⟩ | ⟨_, _, h1⟩
   ·simp at hs
   ·exact h1
  ·exact h.env s e
 ·intro ho
  rcases hnw with ⟨_, _, h1⟩ | ⟨_, rfl, _⟩
  ·obtain ⟨b, hb, _⟩ := ho
   rw [h1] at hb
   cases hb
  ·exact hg n (by simp) ho
 ·simp only [lk] at hs
  by_cases e : n = s
  ·subst e
   rw [if_pos rfl] at hs
   simp only [Option.some.injEq] at hs
   subst hs
   exact hb
  ·rw [if_neg e] at hs
   have hm := look_mem hs
   obtain ⟨s', q, e2, l, he, hrow⟩ := h.cold _ hm
   simp only [Prod.mk.injEq, Option.some.injEq] at he
   obtain ⟨rfl, rfl⟩ := he
   refine .cold q e2 l ?_
   rw [(h.env s (fun h => e h.symm)).2.1]
   exact h.cell hT hR (.row s q e2 l hrow hm) (.inr ⟨_, _, _, rfl, by cases q <;> rfl⟩) (.own s)
 ·simp only [lk] at hs
  by_cases e : n = s
  ·subst e
   rcases h.own (a := a) ho with ⟨_, h1 | h1⟩ | ⟨h1, _, _⟩
   ·exact .inl h1
   ·exact .inr ⟨n, by rw [lk, if_pos rfl]; rfl, h1⟩
   ·exact absurd rfl h1
  ·rw [if_neg e] at hs
   exact absurd ho (cold (fun h => e h.symm) hs)
 ·have at_ : ∀ {s}, (look ((n, some b) :: fs) s).isSome = true → OwnBy E' (st.mem.sets ((n, some b) :: fs)) s g → s = n := by
   intro s hs ho
   rw [lk] at hs
   by_cases e : n = s
   ·exact e.symm
   ·rw [if_neg e] at hs
    exact absurd ho (cold (fun h => e h.symm) hs)
  exact (at_ h1 h3).trans (at_ h2 h4).symm
 ·simp only [lk] at hs
  by_cases e : n = s
  ·subst e
   rcases hnw with ⟨rfl, _, _⟩ | ⟨_, rfl, _⟩
   ·exact .inr (.inl (by simp))
   ·exact .inl (by simp)
  ·rw [if_neg e] at hs
   refine .inr (.inr fun g ho => ?_)
   cases hl : look fs s with
   | none => rw [hl] at hs; cases hs
   | some c => exact (h.frozen hT hR (look_mem hl) ho).1
end
end Go.Proofs.YtbbpcbjgekencaaGreatDoor.Ev
end
section
set_option linter.unusedVariables false
set_option linter.unusedSimpArgs false
set_option linter.unusedVariables false
namespace Go.Proofs.YtbbpcbjgekencaaGreatDoor.Ev
open Go Go.RowKit
section
variable {T : Tab} {P : Program} {W : World} {O A : Nat → Prop} {E0 : Env} {E E' : Env} {B : Pv → Nat → Prop} {w w' : World}
theorem flat_get {α : Type} {z : List α} (hz : 0 < z.length) : ∀ (len j : Nat) (x : α), (List.replicate len z).flatten[j]? = some x → z[j % z.length]? = some x ∧ j < len * z.length := by
 intro len
 induction len with
 | zero => intro j x h; simp at h
 | succ n ih =>
  intro j x h
  rw [List.replicate_succ, List.flatten_cons, List.getElem?_append] at h
  rw [Nat.add_mul]
  split at h
  ·rename_i hj
   rw [Nat.mod_eq_of_lt hj]
   exact ⟨h, by omega⟩
  ·rename_i hj
   obtain ⟨h1, h2⟩ := ih _ _ h
   rw [← Nat.mod_eq_sub_mod (by omega)] at h1
   exact ⟨h1, by omega⟩
theorem flat_length {α : Type} (z : List α) (len : Nat) : (List.replicate len z).flatten.length = len * z.length := by
 simp
theorem fillR_conc (hT : TabOk T P) {st : St T.Γ} {a : Act} (hR : Rel T W O A E0 E st a w) {size : Nat} :
  ∀ (ps : List (Nat × Operand)) (qs : List (Nat × AV T.Γ)) (cells cs : List (CV T.Γ)) (vs : Array Value), partsOf T st.eval ps = some qs → fillR T st.mem size cells qs = some cs → ConcL T E (SB T W O A E st.mem w) w cells vs.toList →
   ∃ us : Array Value, Instr.fill (fun i => some (i * size, size)) vs (ps.map fun (i, x) => (i, a.eval x)) = some us ∧ ConcL T E (SB T W O A E st.mem w) w cs us.toList ∧ us.size = vs.size ∧ ∀ c ∈ cs, c ∈ cells ∨ ∃ x v, st.eval x = some v ∧ c ∈ v.cs := by
 intro ps
 induction ps with
 | nil =>
  intro qs cells cs vs h1 h2 h3
  simp only [partsOf, Option.some.injEq] at h1
  subst h1
  simp only [fillR, Option.some.injEq] at h2
  subst h2
  exact ⟨vs, rfl, h3, rfl, fun c hc => .inl hc⟩
 | cons p r ih =>
  obtain ⟨i, x⟩ := p
  intro qs cells cs vs h1 h2 h3
  simp only [partsOf] at h1
  split at h1
  ·rename_i v hv
   cases hq : partsOf T st.eval r with
   | none => rw [hq] at h1; cases h1
   | some q2 =>
    rw [hq] at h1
    simp only [Option.map_some, Option.some.injEq] at h1
    subst h1
    simp only [fillR] at h2
    split at h2
    ·rename_i l hl
     split at h2
     ·rename_i hb
      simp only [Bool.and_eq_true, beq_iff_eq] at hb
      have hble : i * size + size ≤ cells.length := by simpa using hb.2
      obtain ⟨hc, _, hcv⟩ := cellsOf_conc hT hR.mem hl (eval_conc hR hv)
      obtain ⟨us, hu, huc, hus, hfrom⟩ := ih q2 _ cs _ hq h2 (setAt_conc (off := i * size) h3 hc)
      have e1 : (a.eval x).cells.size = l.length := by have := hc.1; simpa using this
      have e2 : vs.size = cells.length := by have := h3.1; simpa using this
      refine ⟨us, ?_, huc, ?_, fun c hcc => ?_⟩
      ·simp only [List.map_cons, Instr.fill]
       rw [if_neg (by simp [e1]; omega)]
       exact hu
      ·rw [hus, foldSet_list, foldSet_size]
      ·rcases hfrom c hcc with h | h
       ·obtain ⟨t, ht, rfl⟩ := List.getElem_of_mem h
        have ht2 := List.getElem?_eq_getElem ht
        rw [setAt_get] at ht2
        split at ht2
        ·exact .inr ⟨x, v, hv, by rw [← hcv]; exact List.mem_of_getElem? ht2⟩
        ·exact .inl (List.mem_of_getElem? ht2)
       ·exact .inr h
     ·cases h2
    ·cases h2
  ·cases h1
theorem encAll_spec {e : TypeId} : ∀ (len : Nat) (l : List (CV T.Γ)) (xs : List (T.Γ.el e).ty), encAll T e len l = some xs → xs.length = len ∧ ∀ (i : Nat) x, xs[i]? = some x → T.enc e ((l.drop (i * (T.Γ.el e).n)).take (T.Γ.el e).n) = some x := by
 intro len
 induction len with
 | zero =>
  intro l xs h
  cases l with
  | nil => simp only [encAll, Option.some.injEq] at h; subst h; exact ⟨rfl, fun i x h => by simp at h⟩
  | cons y r => simp [encAll] at h
 | succ n ih =>
  intro l xs h
  simp only [encAll] at h
  split at h
  ·rename_i x hx
   cases hq : encAll T e n (l.drop (T.Γ.el e).n) with
   | none => rw [hq] at h; cases h
   | some ys =>
    rw [hq] at h
    simp only [Option.map_some, Option.some.injEq] at h
    subst h
    obtain ⟨i1, i2⟩ := ih _ _ hq
    refine ⟨by simp [i1], fun i y hy => ?_⟩
    cases i with
    | zero => simp at hy; subst hy; simpa using hx
    | succ i =>
     have := i2 i y (by simpa using hy)
     rw [List.drop_drop] at this
     rw [Nat.add_mul, Nat.one_mul, Nat.add_comm]
     exact this
  ·cases h
theorem farL_mem {l : List (CV T.Γ)} {c : CV T.Γ} (h : c ∈ l) (hf : c.far = true) : farL l = true := by
 induction l with
 | nil => cases h
 | cons y r ih =>
  simp only [farL, Bool.or_eq_true]
  cases h with
  | head => exact .inl hf
  | tail _ h => exact .inr (ih h)
theorem enc_cell (hT : TabOk T P) {st : St T.Γ} {a : Act} {n : Nat} {b : Option (Blk T.Γ)} {fs : List (Nat × Option (Blk T.Γ))} (hR : Rel T W O A E0 E st a w) (h : One T E E' st.mem n fs w w') {e : TypeId} {l : List (CV T.Γ)} {y : (T.Γ.el e).ty}
  (he : T.enc e l = some y) {q0 : Bool} (hq : ∀ c ∈ l, c.far = true → q0 = true) (hv : ∀ c ∈ l, c.views = []) {j : Nat} {x c : CV T.Γ} {v : Value} (hx : l[j]? = some c) (hxy : Chill T st.mem fs x c) (hc : Conc T E (SB T W O A E st.mem w) w x v) {cv : CV T.Γ}
  (hcv : (cellsQ T (pvOf (rq T q0 e)) e y)[j]? = some cv) : Conc T E' (SB T W O A E' (st.mem.sets ((n, b) :: fs)) w') w' cv v := by
 obtain ⟨_, h2⟩ := hT.enc e l y he
 rw [cellsQ_at hT.stable, List.getElem?_map] at hcv
 cases hb : (T.cells e y)[j]? with
 | none => rw [hb] at hcv; cases hcv
 | some b0 =>
  rw [hb] at hcv
  simp only [Option.map_some, Option.some.injEq] at hcv
  subst hcv
  have hm := List.mem_of_getElem? hx
  rcases h2 j c b0 hx hb with ⟨u, rfl, rfl⟩ | ⟨p, e', l', rfl, rfl⟩ | ⟨e', rfl, rfl⟩
  ·exact h.cell hT hR hxy (.inl ⟨u, rfl⟩) hc
  ·have hp : p.sites = [] := hv _ hm
   have hcc := h.cell (b := b) hT hR hxy (.inr ⟨p, e', l', rfl, hp⟩) hc
   have to : ∀ p', (∀ g, SB T W O A E' (st.mem.sets ((n, b) :: fs)) w' p g → SB T W O A E' (st.mem.sets ((n, b) :: fs)) w' p' g) → Conc T E' (SB T W O A E' (st.mem.sets ((n, b) :: fs)) w') w' (.sl p' e' l') v := fun p' hp' =>
    hcc.tr (E' := E') (B' := SB T W O A E' (st.mem.sets ((n, b) :: fs)) w') (w' := w') (f := id) (h := fun _ => p') hT.stable ⟨fun s hs => by simp [CV.names] at hs, fun q hq g hg => by
     simp only [CV.pv, Option.some.injEq] at hq
     subst hq
     exact ⟨hp' g hg, fun o u hu => hu⟩⟩
   show Conc T E' _ w' (.sl (pvOf (rq T q0 e)) e' l') v
   cases hfl : T.flat e with
   | true =>
    obtain ⟨u, hu⟩ := hT.flat e hfl y _ (List.mem_of_getElem? hb)
    cases hu
   | false =>
    simp only [rq, hfl]
    cases p with
    | near =>
     cases q0
     ·exact to .near fun g hg => hg
     ·exact to .far fun g hg => ⟨hg.1, hg.2.1, .inl hg.2.2⟩
    | far =>
     have := hq _ hm rfl
     subst this
     exact to .far fun g hg => hg
    | of s => cases hp
    | mix s => cases hp
  ·have hcc := h.cell (b := b) hT hR hxy (.inl ⟨_, rfl⟩) hc
   cases hcc
   exact .sl0 _ e' none 0
theorem run_buildRow (w : World) (t e : TypeId) (len : Nat) (parts : Array (Nat × Value)) (cells : Array Value) (ie : TypeInfo) (z : Value)
  (hu : P.underlying t = some (.slice e)) (hie : P.info? e = some ie) (hz : ie.zero = some z) (hsmall : ¬ len * ie.size > 2 ^ 24)
  (h : Instr.fill (fun i => some (i * ie.size, ie.size)) (madeCells z.cells (len * ie.size)) parts.toList = some cells) :
  (Instr.buildSlice t len parts).run P w = .ok (.slice (some ⟨w.heap.size, 0, none⟩) len len) (w.alloc (.cells cells e (0, 0))) := by
 by_cases hp : len * ie.size = 0
 ·rw [hp] at h
  simp only [madeCells] at h
  have hr : Array.range 0 = #[] := rfl
  rw [hr, Array.map_empty] at h
  simp [Instr.buildSlice, run_underlying hu, sizeOf, typeInfo, zeroValue, hie, hz, hp, hr, h, newRow]
 ·exact run_buildSlice w t e len parts cells ie z hu hie hz hsmall hp h
theorem buildSlice_sound (hT : TabOk T P) (S : FuncId → Option (FnS T.Γ)) (o : Oper) (t : TypeId) (len : Nat) (parts : Array (Nat × Operand)) (ho : o.op = .buildSlice t len parts) : OpSound T P S o := by
 intro W O A E0 k st E a w v mc st' N Q hR he ha hN
 simp only [evalD, ho] at he
 split at he
 ·rename_i e d ps hu hd hps
  split at he
  ·rename_i z hsm hz
   simp only [Bool.and_eq_true] at hsm
   obtain ⟨hsm, hs⟩ := hsm
   have hsm : len * (T.Γ.el e).n ≤ 16777216 := by simpa using hsm
   split at he
   ·rename_i cs hcs
    split at he
    ·rename_i l hcl henc
     simp only [Option.some.injEq, Prod.mk.injEq] at he
     obtain ⟨rfl, rfl⟩ := he
     obtain ⟨hsz, hpos, _, zz, hzz, _, _⟩ := hT.std e hs
     obtain ⟨i, zv, hi, hiz, hzc⟩ := hT.zero _ _ hzz
     have hsize : i.size = (T.Γ.el e).n := by
      have := hT.size _ _ hsz
      rw [hi] at this
      simpa using this
     unfold zeroCells at hz
     rw [hzz] at hz
     have hz : ofCells zz = some z := hz
     have hcz := ofCells_conc (E := E) (B := SB T W O A E st.mem w) (w := w) _ _ hz
     have hzl : z.length = zv.cells.size := by rw [← hcz.1, ← hzc]; simp
     have hzn : zv.cells.size = (T.Γ.el e).n := by
      obtain ⟨_, _, _, z2, hz2, hcells, _⟩ := hT.std e hs
      have := hT.count e (T.Γ.el e).z
      rw [hzz] at hz2
      cases hz2
      rw [← hcells.1, ← hzc] at this
      simpa using this
     have hmade : ConcL T E (SB T W O A E st.mem w) w (List.replicate len z).flatten (madeCells zv.cells (len * i.size)).toList := by
      refine ⟨by rw [flat_length, Array.length_toList, size_madeCells, hzl, hzn, hsize], fun j cv u hj hu => ?_⟩
      obtain ⟨h1, h2⟩ := flat_get (by omega) len j cv hj
      rw [Array.getElem?_toList] at hu
      unfold madeCells at hu
      rw [Array.getElem?_map, Array.getElem?_range, if_pos (by rw [hsize, ← hzn, ← hzl]; exact h2)] at hu
      simp only [Option.map_some, Option.some.injEq] at hu
      rw [hzl] at h1
      have hlt : j % zv.cells.size < zv.cells.size := Nat.mod_lt _ (by omega)
      refine hcz.2 _ cv u h1 ?_
      rw [← hzc, Array.getElem?_toList, Array.getElem?_eq_getElem hlt]
      rw [getElem!_def, Array.getElem?_eq_getElem hlt] at hu
      exact congrArg some hu
     obtain ⟨us, hf, huc, hus, hfrom⟩ := fillR_conc hT hR parts.toList ps _ cs _ hps hcs hmade
     have hfr := nmIn_free ha
     obtain ⟨_, hnone, _, _⟩ := free_spec hfr
     obtain ⟨hs1, hs2, hs3⟩ := chill_spec st.mem cs
     obtain ⟨hl1, hl2⟩ := encAll_spec len _ _ henc
     have hussz : us.size = len * (T.Γ.el e).n := by rw [hus, size_madeCells, hsize]
     have hrun : (execOp a.eval o).run P w = .ok (.value (.slice (some ⟨w.heap.size, 0, none⟩) l.length len)) (w.alloc (.cells us e (0, 0))) := by
      simp only [execOp, ho]
      rw [hl1]
      refine bind_value (a := a) (run_buildRow w t e len _ us i zv (hT.und _ _ hu) hi hiz (by rw [hsize]; omega) ?_)
      rw [Array.toList_map, hsize]
      rw [hsize] at hf
      exact hf
     have hone : One T E (E.set (nmIn st.mem d) (some w.heap.size) (.slice (some ⟨w.heap.size, 0, none⟩) l.length len) fun g => g = w.heap.size) st.mem (nmIn st.mem d) (chill T st.mem cs).2 w (w.alloc (.cells us e (0, 0))) := by
      refine ⟨fun s h => Env.set_other h, fun g h => ?_, fun g hlt _ => (below_alloc w _).block g hlt, rfl, rfl, rfl, (below_alloc w _).size, hs1, fun p hp h => ?_⟩
      ·rw [Env.set_same.2.2] at h
       exact .inl (by omega)
      ·obtain ⟨s, q, e2, l2, rfl, hrow⟩ := hs1 p hp
       have h : s = nmIn st.mem d := h
       rw [h, hnone] at hrow
       cases hrow
     have hclean : ∀ c ∈ (chill T st.mem cs).1, c.views = [] := by
      simp only [cleanOf, Bool.and_eq_true, List.isEmpty_iff] at hcl
      intro c hc
      cases hv : c.views with
      | nil => rfl
      | cons s r =>
       have := viewsL_mem hc (by rw [hv]; exact List.mem_cons_self : s ∈ c.views)
       rw [hcl.1] at this
       cases this
     refine wp_value hrun (hN _ _ _ (mem_rel hT hR ha (by simp) (hone.chg hT hR (.inl ⟨rfl, rfl, hnone⟩) ?_) ?_))
     ·refine .row _ e l w.heap.size len us Env.set_same.1 (fun g' => by rw [Env.set_same.2.2]) (alloc_new w _) Env.set_same.2.1 (by omega) ⟨hussz, ?_⟩ (fun r hr j cv hj => ?_)
      ·have : len ≤ len * (T.Γ.el e).n := Nat.le_mul_of_pos_right _ hpos
       simp only [maxLen]
       omega
      ·have hjn : j < (T.Γ.el e).n := by
        have := (List.getElem?_eq_some_iff.mp hj).1
        rw [cellsQ_length hT.stable, hT.count] at this
        exact this
       have hen := hl2 r _ (List.getElem?_eq_getElem hr)
       have hidx : r * (T.Γ.el e).n + j < us.size := by
        rw [hussz]
        have : (r + 1) * (T.Γ.el e).n ≤ len * (T.Γ.el e).n := Nat.mul_le_mul_right _ (by omega)
        rw [Nat.add_mul] at this
        omega
       have hcsl : cs.length = us.size := by have := huc.1; simpa using this.symm
       have hx := List.getElem?_eq_getElem (l := cs) (i := r * (T.Γ.el e).n + j) (by omega)
       have hy := List.getElem?_eq_getElem (l := (chill T st.mem cs).1) (i := r * (T.Γ.el e).n + j) (by omega)
       have hu1 : us.toList[r * (T.Γ.el e).n + j]? = some us[r * (T.Γ.el e).n + j] := by rw [Array.getElem?_toList, Array.getElem?_eq_getElem hidx]
       have hsub : ∀ c ∈ ((chill T st.mem cs).1.drop (r * (T.Γ.el e).n)).take (T.Γ.el e).n, c ∈ (chill T st.mem cs).1 := fun c hc => List.mem_of_mem_drop (List.mem_of_mem_take hc)
       refine ⟨us[r * (T.Γ.el e).n + j], Array.getElem?_eq_getElem hidx, ?_⟩
       refine enc_cell hT hR hone hen (q0 := farL (chill T st.mem cs).1) (fun c hc hf => farL_mem (hsub c hc) hf) (fun c hc => hclean c (hsub c hc)) (j := j) (c := (chill T st.mem cs).1[r * (T.Γ.el e).n + j]) ?_ (hs3 _ _ _ hx hy) (huc.2 _ _ _ hx hu1) hj
       rw [List.getElem?_take_of_lt hjn, List.getElem?_drop]
       exact hy
     ·refine .t (.cell ?_)
      have h2 := Conc.own (T := T) (E := E.set (nmIn st.mem d) (some w.heap.size) (.slice (some ⟨w.heap.size, 0, none⟩) l.length len) fun g => g = w.heap.size) (B := SB T W O A (E.set (nmIn st.mem d) (some w.heap.size) (.slice (some ⟨w.heap.size, 0, none⟩) l.length len) fun g => g = w.heap.size) (st.mem.sets ((nmIn st.mem d, some (.row (rq T (farL (chill T st.mem cs).1) e) e l)) :: (chill T st.mem cs).2)) (w.alloc (.cells us e (0, 0)))) (w := w.alloc (.cells us e (0, 0))) (nmIn st.mem d)
      rw [Env.set_same.2.1] at h2
      exact h2
    ·cases he
   ·cases he
  ·cases he
 ·cases he
end
end Go.Proofs.YtbbpcbjgekencaaGreatDoor.Ev
end
section
set_option linter.unusedVariables false
set_option linter.unusedSimpArgs false
set_option linter.unusedVariables false
namespace Go.Proofs.YtbbpcbjgekencaaGreatDoor.Ev
open Go Go.RowKit
section
variable {T : Tab} {P : Program} {W : World} {O A : Nat → Prop} {E0 : Env} {E E' : Env} {B : Pv → Nat → Prop} {w w' : World}
theorem wp_skip {o : Oper} {a : Act} {N : Act → World → Prop} {Q : Exit → Act → World → Prop} (h : (execOp a.eval o).run P w = .ok .skip w') (hN : N (a.put o.dst undef) w') : o.wp P a w N Q := by
 unfold Oper.wp
 rw [h]
 exact hN
theorem undef_conc : ConcA T E B w (.tup []) undef := .tup rfl (fun j x v h => by simp at h)
theorem run_storeAny (w : World) (b o : Nat) (ty : TypeId) (v : Value) (ht : w.there b o v.cells.size) (hi : (P.info? ty).map (·.size) = some v.cells.size) (h1 : ∀ u ∈ v.cells.toList, u.oneCell' = true) :
  (Instr.storeAt ty (.pointer (some ⟨b, o, none⟩)) v).run P w = .ok () (w.setCells b o v.cells.toList) := by
 have := run_storeCells_cells (P := P) b o v.cells.toList 0 w (fun j hj => by simpa using (ht j (by simpa using hj)).1) (fun j hj => by simpa using (ht j (by simpa using hj)).2) h1
 cases hq : P.info? ty with
 | none => simp [hq] at hi
 | some i =>
  have hs : v.cells.size = i.size := by simp [hq] at hi; omega
  simp only [Nat.add_zero] at this
  simp [Instr.storeAt, Instr.sureAddr, storeVar, sizeOf, typeInfo, hq, hs, this]
theorem setCells_frame {g : Nat} {e : TypeId} : ∀ (us : List Value) (k off : Nat) (w : World) (vs : Array Value), w.heap[g]? = some (.cells vs e (0, 0)) →
  (w.setCells g (off + k) us).heap[g]? = some (.cells ((us.zipIdx k).foldl (fun cs (c, j) => cs.setIfInBounds (off + j) c) vs) e (0, 0)) ∧ (∀ q, q ≠ g → (w.setCells g (off + k) us).heap[q]? = w.heap[q]?) ∧
  (w.setCells g (off + k) us).heap.size = w.heap.size ∧ (w.setCells g (off + k) us).os = w.os ∧ (w.setCells g (off + k) us).tape = w.tape ∧ (w.setCells g (off + k) us).output = w.output := by
 intro us
 induction us with
 | nil => intro k off w vs h; exact ⟨h, fun q _ => rfl, rfl, rfl, rfl, rfl⟩
 | cons u r ih =>
  intro k off w vs h
  obtain ⟨i1, i2, i3, i4, i5, i6⟩ := ih (k + 1) off (w.setCell ⟨g, off + k, none⟩ u) _ (heap_setCell_same w g (off + k) vs e u h)
  have e1 : w.setCells g (off + k) (u :: r) = (w.setCell ⟨g, off + k, none⟩ u).setCells g (off + (k + 1)) r := rfl
  rw [e1]
  refine ⟨?_, fun q hq => (i2 q hq).trans (heap_setCell_other w ⟨g, off + k, none⟩ q u hq), i3.trans (by simp [World.setCell]), i4, i5, i6⟩
  rw [List.zipIdx_cons, List.foldl_cons]
  exact i1
theorem there_of {w : World} {g o n : Nat} {vs : Array Value} {e : TypeId} (h : w.heap[g]? = some (.cells vs e (0, 0))) (hn : o + n ≤ vs.size) : w.there g o n := by
 intro j hj
 refine ⟨?_, ?_⟩
 ·simp only [World.cell?, h]
  rw [Array.getElem?_eq_getElem (by omega)]
  rfl
 ·simp [World.frozen?, h]
theorem One.stb (hT : TabOk T P) {st : St T.Γ} {a : Act} {n : Nat} {b : Option (Blk T.Γ)} {fs : List (Nat × Option (Blk T.Γ))} (hR : Rel T W O A E0 E st a w) (h : One T E E' st.mem n fs w w') {p : Pv} {g : Nat} (hp : ∀ s, p = .of s ∨ p = .mix s → s ≠ n)
  (hg : SB T W O A E st.mem w p g) : SB T W O A E' (st.mem.sets ((n, b) :: fs)) w' p g ∧ w'.heap[g]? = w.heap[g]? := by
 have hlt := hg.lt
 have hlt' : g < w'.heap.size := Nat.lt_of_lt_of_le hlt h.size
 have no := fun hn => h.no (b := b) hT hR hlt hn
 have own : ∀ s, s ≠ n → OwnBy E st.mem s g → ((¬ Own E' (st.mem.sets ((n, b) :: fs)) g ∧ (W.heap.size ≤ g ∨ O g)) ∨ OwnBy E' (st.mem.sets ((n, b) :: fs)) s g) ∧ w'.heap[g]? = w.heap[g]? := by
  intro s hs ho
  cases hl : look fs s with
  | some c =>
   have := h.frozen (b := b) hT hR (look_mem hl) ho
   exact ⟨.inl ⟨this.1, hR.mine g ⟨s, ho⟩⟩, this.2⟩
  | none =>
   refine ⟨.inr ?_, h.heap g hlt (fun h2 => hs (hR.mem.apart s n g ho h2))⟩
   obtain ⟨b', hb', hh, hφ⟩ := ho
   refine ⟨b', ?_, hh, by rw [(h.env s hs).2.2]; exact hφ⟩
   rw [get_sets]
   simp only [look, if_neg (fun h : n = s => hs h.symm), hl]
   exact hb'
 cases p with
 | near => exact ⟨⟨hlt', (no hg.2.1).1, hg.2.2⟩, (no hg.2.1).2⟩
 | far => exact ⟨⟨hlt', (no hg.2.1).1, hg.2.2⟩, (no hg.2.1).2⟩
 | of s =>
  rcases hg.2 with h1 | h1
  ·exact ⟨⟨hlt', .inl ⟨(no h1.1).1, h1.2⟩⟩, (no h1.1).2⟩
  ·have := own s (hp s (.inl rfl)) h1
   exact ⟨⟨hlt', this.1⟩, this.2⟩
 | mix s =>
  rcases hg.2 with h1 | h1
  ·exact ⟨⟨hlt', .inl ⟨(no h1.1).1, h1.2⟩⟩, (no h1.1).2⟩
  ·have := own s (hp s (.inr rfl)) h1
   exact ⟨⟨hlt', this.1.imp (fun h => ⟨h.1, .inl h.2⟩) id⟩, this.2⟩
theorem One.stay (hT : TabOk T P) {st : St T.Γ} {a : Act} {n : Nat} {b : Option (Blk T.Γ)} {fs : List (Nat × Option (Blk T.Γ))} (hR : Rel T W O A E0 E st a w) (h : One T E E' st.mem n fs w w') (hn : E'.ρ n = E.ρ n ∧ E'.σ n = E.σ n) {c : CV T.Γ} (hc : n ∉ c.views) :
  Stay E (SB T W O A E st.mem w) w E' (SB T W O A E' (st.mem.sets ((n, b) :: fs)) w') w' c := by
 refine ⟨fun s hs => ?_, fun p hp g hg => h.stb hT hR (fun s e h2 => hc ?_) hg⟩
 ·by_cases e : s = n
  ·subst e; exact hn
  ·exact ⟨(h.env s e).1, (h.env s e).2.1⟩
 ·subst h2
  exact pv_views (e.imp (fun e => by rw [hp, e]) (fun e => by rw [hp, e]))
theorem One.wide (hT : TabOk T P) {st : St T.Γ} {a : Act} {n : Nat} {b : Option (Blk T.Γ)} {fs : List (Nat × Option (Blk T.Γ))} (hR : Rel T W O A E0 E st a w) (h : One T E E' st.mem n fs w w') {c : CV T.Γ} {q q0 : Bool} {e : TypeId} {v : Value}
  (hf : (∃ u, c = .c u) ∨ ((∃ e' l', c = .sl .near e' l') ∧ T.flat e = false)) (hq : q = true → q0 = true) (hc : Conc T E (SB T W O A E st.mem w) w (c.at (pvOf q)) v) :
  Conc T E' (SB T W O A E' (st.mem.sets ((n, b) :: fs)) w') w' (c.at (pvOf (rq T q0 e))) v := by
 rcases hf with ⟨u, rfl⟩ | ⟨⟨e', l', rfl⟩, hfl⟩
 ·have hc : Conc T E (SB T W O A E st.mem w) w (.c u) v := hc
  cases hc
  exact .c _
 ·have hc : Conc T E (SB T W O A E st.mem w) w (.sl (pvOf q) e' l') v := hc
  show Conc T E' _ w' (.sl (pvOf (rq T q0 e)) e' l') v
  simp only [rq, hfl]
  refine hc.tr (E' := E') (B' := SB T W O A E' (st.mem.sets ((n, b) :: fs)) w') (w' := w') (f := id) (h := fun _ => pvOf q0) hT.stable ⟨fun s hs => by simp [CV.names] at hs, fun p hp g hg => ?_⟩
  simp only [CV.pv, Option.some.injEq] at hp
  subst hp
  have h1 := h.stb (b := b) hT hR (p := pvOf q) (fun s e => by cases q <;> simp [pvOf] at e) hg
  refine ⟨?_, fun o u hu => ?_⟩
  ·cases q
   ·cases q0
    ·exact h1.1
    ·exact ⟨h1.1.1, h1.1.2.1, .inl h1.1.2.2⟩
   ·rw [hq rfl]
    exact h1.1
  ·simp only [World.cell?] at hu ⊢
   rw [h1.2]
   exact hu
end
end Go.Proofs.YtbbpcbjgekencaaGreatDoor.Ev
end
section
set_option linter.unusedVariables false
set_option linter.unusedSimpArgs false
set_option linter.unusedVariables false
namespace Go.Proofs.YtbbpcbjgekencaaGreatDoor.Ev
open Go Go.RowKit
section
variable {T : Tab} {P : Program} {W : World} {O A : Nat → Prop} {E0 : Env} {E E' : Env} {B : Pv → Nat → Prop} {w w' : World}
theorem apply_meets {st st' : St T.Γ} {d : Option Nat} {v : AV T.Γ} {mc : MC T.Γ} (ha : st.apply d v mc = some st') (hne : mc.sets ≠ []) : meets (v.views ++ memViews (st.mem.sets mc.sets)) mc.writes = false := by
 unfold St.apply at ha
 split at ha
 ·exact absurd ‹_› hne
 ·split at ha
  ·rename_i h
   simp only [Bool.and_eq_true, Bool.not_eq_true'] at h
   exact h.2
  ·cases ha
theorem setAt_mem {Γ : Sig} {l xs : List (CV Γ)} {o : Nat} {c : CV Γ} (h : c ∈ setAt l o xs) : c ∈ l ∨ c ∈ xs := by
 obtain ⟨t, ht, rfl⟩ := List.getElem_of_mem h
 have h2 := List.getElem?_eq_getElem ht
 rw [setAt_get] at h2
 split at h2
 ·exact .inr (List.mem_of_getElem? h2)
 ·exact .inl (List.mem_of_getElem? h2)
theorem clean_spec {m : Mem T.Γ} {ws : List Nat} {cs : List (CV T.Γ)} (h : cleanOf T m ws cs = true) : (∀ c ∈ (chill T m cs).1, c.views = []) ∧ ∀ p ∈ (chill T m cs).2, p.1 ∉ ws := by
 simp only [cleanOf, Bool.and_eq_true, List.isEmpty_iff, Bool.not_eq_true'] at h
 refine ⟨fun c hc => ?_, fun p hp => meets_false h.2 _ (List.mem_map_of_mem hp)⟩
 cases hv : c.views with
 | nil => rfl
 | cons s r =>
  have := viewsL_mem hc (by rw [hv]; exact List.mem_cons_self : s ∈ c.views)
  rw [h.1] at this
  cases this
theorem One.written {m : Mem T.Γ} {n g off : Nat} {b : Blk T.Γ} {fs : List (Nat × Option (Blk T.Γ))} {vs : Array Value} {e : TypeId} {us : List Value} (hm : m.get n = some b) (hh : b.hot = true) (hf : ∀ g', E.φ n g' ↔ g' = g) (hv : w.heap[g]? = some (.cells vs e (0, 0)))
  (hs1 : ∀ p ∈ fs, ∃ s q e l, p = (s, some (.cold q e l)) ∧ m.get s = some (.row q e l)) (hs2 : ∀ p ∈ fs, p.1 ≠ n) : One T E E m n fs w (w.setCells g off us) := by
 have hown : OwnBy E m n g := ⟨b, hm, hh, (hf g).mpr rfl⟩
 obtain ⟨_, f2, f3, f4, f5, f6⟩ := setCells_frame us 0 off w vs hv
 refine ⟨fun s _ => ⟨rfl, rfl, rfl⟩, fun g' h => .inr ⟨b, hm, hh, h⟩, fun k _ hk => f2 k (fun e => hk (e ▸ hown)), f4, f5, f6, Nat.le_of_eq f3.symm, hs1, hs2⟩
theorem cell_flat (hT : TabOk T P) {e : TypeId} {x : (T.Γ.el e).ty} {j : Nat} {c : CV T.Γ} (h : (T.cells e x)[j]? = some c) : (∃ u, c = .c u) ∨ ((∃ e' l', c = .sl .near e' l') ∧ T.flat e = false) := by
 have hm := List.mem_of_getElem? h
 rcases hT.stable e x c hm with h1 | h1
 ·exact .inl h1
 ·cases hf : T.flat e with
  | false => exact .inr ⟨h1, rfl⟩
  | true => exact .inl (hT.flat e hf x c hm)
theorem store_sound (hT : TabOk T P) (S : FuncId → Option (FnS T.Γ)) (o : Oper) (t : TypeId) (x y : Operand) (ho : o.op = .store t x y) : OpSound T P S o := by
 intro W O A E0 k st E a w v mc st' N Q hR he ha hN
 simp only [evalD, ho] at he
 split at he
 ·rename_i p cs hp hcs
  split at he
  ·rename_i hsz
   simp only [decide_eq_true_eq] at hsz
   cases hq : st.eval y with
   | none => rw [hq] at hcs; cases hcs
   | some u =>
   rw [hq] at hcs
   have hcs : cellsOf st.mem u = some cs := hcs
   obtain ⟨hc, hone1, _⟩ := cellsOf_conc hT hR.mem hcs (eval_conc hR hq)
   have hus : (a.eval y).cells.size = cs.length := by have := hc.1; simpa using this
   have hpc := eval_conc hR hp
   have run : ∀ {g off : Nat} {vs : Array Value} {e : TypeId}, a.eval x = .pointer (some ⟨g, off, none⟩) → w.heap[g]? = some (.cells vs e (0, 0)) → off + cs.length ≤ vs.size →
     (execOp a.eval o).run P w = .ok .skip (w.setCells g off (a.eval y).cells.toList) := by
    intro g off vs e h1 h2 h3
    have := run_storeAny (P := P) w g off t (a.eval y) (there_of h2 (by omega)) (by rw [hus]; exact hT.size _ _ hsz) hone1
    simp only [execOp, ho, h1]
    rw [Sem.run_bind, this]
    rfl
   unfold storeA at he
   split at he
   ·rename_i s off
    have hpt : ∃ g, E.ρ s = some g ∧ a.eval x = .pointer (some ⟨g, off, none⟩) := by
     generalize a.eval x = pv at hpc
     cases hpc with
     | t h =>
     cases h with
     | cell h =>
     cases h with
     | box _ _ g h => exact ⟨g, h, rfl⟩
    obtain ⟨g, hg, hpe⟩ := hpt
    split at he
    ·rename_i t2 l hm
     split at he
     ·rename_i hble
      have hble : off + cs.length ≤ l.length := by simpa using hble
      simp only [Option.some.injEq, Prod.mk.injEq] at he
      obtain ⟨rfl, rfl⟩ := he
      have hblk := hR.mem.blk s _ hm
      cases hblk with
      | box _ _ g' vs hg' hf hh hl =>
      obtain rfl : g' = g := by rw [hg] at hg'; exact (Option.some.inj hg').symm
      have hvs : vs.size = l.length := by have := hl.1; simpa using this
      have hone : One T E E st.mem s [] w (w.setCells g' off (a.eval y).cells.toList) := One.written hm rfl hf hh (fun p h => by cases h) (fun p h => by cases h)
      have hme := meets_false (apply_meets ha (by simp))
      refine wp_skip (run hpe hh (by omega)) (hN _ _ _ (mem_rel hT hR ha (by simp) (hone.chg hT hR (.inr ⟨rfl, rfl, rfl, rfl, rfl⟩) ?_) undef_conc))
      refine .box t2 _ g' _ hg hf (setCells_frame _ 0 off w vs hh).1 ?_
      have := setAt_conc (off := off) hl hc
      rw [foldSet_list] at this
      refine this.stay hT.stable (fun c hcc => hone.stay hT hR ⟨rfl, rfl⟩ (fun hv => ?_))
      refine hme s (List.mem_append_right _ (memViews_mem (s := s) (b := .box t2 (setAt l off cs)) ?_ s (viewsL_mem hcc hv))) (by simp)
      rw [get_sets]
      simp only [look, if_pos]
     ·cases he
    ·cases he
   ·rename_i s e i off
    have hpt : ∃ g, E.ρ s = some g ∧ a.eval x = .pointer (some ⟨g, i.toNat * (T.Γ.el e).n + off, none⟩) := by
     generalize a.eval x = pv at hpc
     cases hpc with
     | t h =>
     cases h with
     | cell h =>
     cases h with
     | rowp _ _ _ _ g h => exact ⟨g, h, rfl⟩
    obtain ⟨g, hg, hpe⟩ := hpt
    split at he
    ·rename_i q e' l hm
     split at he
     ·rename_i hee
      subst hee
      rcases br_some he with ⟨hlt, he⟩ | ⟨_, he⟩
      ·split at he
       ·rename_i y1 hcl henc
        simp only [Option.some.injEq, Prod.mk.injEq] at he
        obtain ⟨rfl, rfl⟩ := he
        simp only [Bool.and_eq_true] at hcl
        obtain ⟨hcl, hroom⟩ := hcl
        have hroom : off + cs.length ≤ (T.Γ.el e').n := by simpa using hroom
        obtain ⟨hc1, hc2⟩ := clean_spec hcl
        obtain ⟨hs1, hs2, hs3⟩ := chill_spec st.mem cs
        have hblk := hR.mem.blk s _ hm
        cases hblk with
        | nil q e hf hsv => simp at hlt
        | row _ _ _ g' cap vs hg' hf hh hsv hcap hvs hl =>
        obtain rfl : g' = g := by rw [hg] at hg'; exact (Option.some.inj hg').symm
        have hone : One T E E st.mem s (chill T st.mem cs).2 w (w.setCells g' (i.toNat * (T.Γ.el e').n + off) (a.eval y).cells.toList) := One.written hm rfl hf hh hs1 (fun p h e => hc2 p h (by simp [e]))
        have hi1 : (i.toNat + 1) * (T.Γ.el e').n ≤ cap * (T.Γ.el e').n := Nat.mul_le_mul_right _ (by omega)
        rw [Nat.add_mul, Nat.one_mul] at hi1
        have hget : ((rfl : e' = e') ▸ l : List (T.Γ.el e').ty).getD i.toNat (T.Γ.el e').z = l[i.toNat] := by
         show l.getD i.toNat _ = _
         simp [List.getD, hlt]
        rw [hget] at henc
        refine wp_skip (run hpe hh (by rw [hvs.1]; omega)) (hN _ _ _ (mem_rel hT hR ha (by simp) (hone.chg hT hR (.inr ⟨rfl, rfl, rfl, rfl, rfl⟩) ?_) undef_conc))
        have hlen : (l.set i.toNat y1).length = l.length := List.length_set
        refine .row _ e' _ g' cap _ hg hf (setCells_frame _ 0 (i.toNat * (T.Γ.el e').n + off) w vs hh).1 (by rw [hlen]; exact hsv) (by rw [hlen]; exact hcap) ⟨by rw [foldSet_size]; exact hvs.1, hvs.2⟩ (fun r hr j cv hj => ?_)
        have hr' : r < l.length := by rw [hlen] at hr; exact hr
        have hjn : j < (T.Γ.el e').n := by
         have := (List.getElem?_eq_some_iff.mp hj).1
         rw [cellsQ_length hT.stable, hT.count] at this
         exact this
        have hr1 : (r + 1) * (T.Γ.el e').n ≤ cap * (T.Γ.el e').n := Nat.mul_le_mul_right _ (by omega)
        rw [Nat.add_mul, Nat.one_mul] at hr1
        rw [foldSet_get]
        simp only [Nat.add_zero, Array.length_toList, hus]
        have oldc : ∀ c, (T.cells e' l[r])[j]? = some c → ∃ z, vs[r * (T.Γ.el e').n + j]? = some z ∧ Conc T E (SB T W O A E st.mem w) w (c.at (pvOf q)) z := by
         intro c hcj
         refine hl r hr' j _ ?_
         rw [cellsQ_at hT.stable, List.getElem?_map, hcj]
         rfl
        by_cases hri : i.toNat = r
        ·subst hri
         rw [List.getElem_set_self] at hj
         have hLlen : (setAt (T.cells e' l[i.toNat]) off (chill T st.mem cs).1).length = (T.Γ.el e').n := by rw [setAt_length, hT.count]
         have hLj := List.getElem?_eq_getElem (l := setAt (T.cells e' l[i.toNat]) off (chill T st.mem cs).1) (i := j) (by omega)
         have hLj2 := hLj
         rw [setAt_get, hs2, hT.count] at hLj2
         by_cases hin : off ≤ j ∧ j < off + cs.length
         ·rw [if_pos ⟨hin.1, hin.2, hjn⟩] at hLj2
          rw [if_pos (by rw [hvs.1]; omega)]
          have hx := List.getElem?_eq_getElem (l := cs) (i := j - off) (by omega)
          have hu1 := List.getElem?_eq_getElem (l := (a.eval y).cells.toList) (i := j - off) (by simp [hus]; omega)
          refine ⟨_, by rw [show i.toNat * (T.Γ.el e').n + j - (i.toNat * (T.Γ.el e').n + off) = j - off by omega]; exact hu1, ?_⟩
          refine enc_cell hT hR hone henc (q0 := q || farL (chill T st.mem cs).1) (fun c hcc hf => ?_) (fun c hcc => ?_) hLj (hs3 _ _ _ hx hLj2) (hc.2 _ _ _ hx hu1) hj
          ·rcases setAt_mem hcc with h | h
           ·rcases hT.stable _ _ c h with ⟨u, rfl⟩ | ⟨e2, l2, rfl⟩ <;> cases hf
           ·rw [farL_mem h hf, Bool.or_true]
          ·rcases setAt_mem hcc with h | h
           ·rcases hT.stable _ _ c h with ⟨u, rfl⟩ | ⟨e2, l2, rfl⟩ <;> rfl
           ·exact hc1 c h
         ·rw [if_neg (by omega)] at hLj2
          rw [if_neg (by omega)]
          obtain ⟨z, hz1, hz2⟩ := oldc _ hLj2
          refine ⟨z, hz1, ?_⟩
          rw [cellsQ_at hT.stable, List.getElem?_map] at hj
          cases hb : (T.cells e' y1)[j]? with
          | none => rw [hb] at hj; cases hj
          | some b0 =>
           rw [hb] at hj
           simp only [Option.map_some, Option.some.injEq] at hj
           subst hj
           have hflat := cell_flat hT hLj2
           have hb2 := cell_flat hT hb
           have wide := hone.wide (b := some (.row (rq T (q || farL (chill T st.mem cs).1) e') e' (l.set i.toNat y1))) hT hR (q0 := q || farL (chill T st.mem cs).1) (e := e') hflat (fun h => by rw [h]; rfl) hz2
           rcases (hT.enc e' _ y1 henc).2 j _ b0 hLj hb with ⟨u, h1, rfl⟩ | ⟨p, e2, l2, h1, rfl⟩ | ⟨e2, h1, rfl⟩
           ·rw [h1] at wide; exact wide
           ·rw [h1] at wide; exact wide
           ·rw [h1] at wide
            generalize hk : CV.at (pvOf (rq T (q || farL (chill T st.mem cs).1) e')) (CV.c (Γ := T.Γ) (.slice none 0 0)) = kk at wide
            have hk : CV.c (Γ := T.Γ) (.slice none 0 0) = kk := hk
            subst hk
            cases wide
            exact .sl0 _ e2 none 0
        ·rw [List.getElem_set_ne hri] at hj
         have hout : ¬ (i.toNat * (T.Γ.el e').n + off ≤ r * (T.Γ.el e').n + j ∧ r * (T.Γ.el e').n + j < i.toNat * (T.Γ.el e').n + off + cs.length ∧ r * (T.Γ.el e').n + j < vs.size) := by
          rcases Nat.lt_or_gt_of_ne hri with h | h
          ·have : (i.toNat + 1) * (T.Γ.el e').n ≤ r * (T.Γ.el e').n := Nat.mul_le_mul_right _ (by omega)
           rw [Nat.add_mul, Nat.one_mul] at this
           omega
          ·have : (r + 1) * (T.Γ.el e').n ≤ i.toNat * (T.Γ.el e').n := Nat.mul_le_mul_right _ (by omega)
           rw [Nat.add_mul, Nat.one_mul] at this
           omega
         rw [if_neg hout]
         rw [cellsQ_at hT.stable, List.getElem?_map] at hj
         cases hb : (T.cells e' l[r])[j]? with
         | none => rw [hb] at hj; cases hj
         | some b0 =>
          rw [hb] at hj
          simp only [Option.map_some, Option.some.injEq] at hj
          subst hj
          obtain ⟨z, hz1, hz2⟩ := oldc _ hb
          exact ⟨z, hz1, hone.wide hT hR (cell_flat hT hb) (fun h => by rw [h]; rfl) hz2⟩
       ·cases he
      ·cases he
     ·cases he
    ·cases he
   ·cases he
  ·cases he
 ·cases he
end
end Go.Proofs.YtbbpcbjgekencaaGreatDoor.Ev
end
section
set_option linter.unusedVariables false
set_option linter.unusedSimpArgs false
set_option linter.unusedVariables false
namespace Go.Proofs.YtbbpcbjgekencaaGreatDoor.Ev
open Go Go.RowKit
section
variable {T : Tab} {P : Program} {W : World} {O A : Nat → Prop} {E0 : Env} {E E' : Env} {B : Pv → Nat → Prop} {w w' : World}
def Lies (T : Tab) (E : Env) (B : Pv → Nat → Prop) (w : World) (q : Bool) (e : TypeId) (l : List (T.Γ.el e).ty) (v : Value) : Prop :=
 (l = [] ∧ ∃ A cap, v = .slice A 0 cap) ∨ ∃ g off cap, ∃ y : Nat → Nat → Value, v = .slice (some ⟨g, off, none⟩) l.length cap ∧ l.length ≤ cap ∧
  ∀ i (h : i < l.length) (j : Nat) cv, (cellsQ T (pvOf q) e l[i])[j]? = some cv → w.cell? ⟨g, off + i * (T.Γ.el e).n + j, none⟩ = some (y i j) ∧ Conc T E B w cv (y i j)
theorem Lies.of {p : Pv} {q : Bool} {e : TypeId} {l : List (T.Γ.el e).ty} {v : Value} (h : Conc T E B w (.sl p e l) v) (hp : ∀ i (h : i < l.length) (j : Nat) cv, (cellsQ T (pvOf q) e l[i])[j]? = some cv → (cellsQ T p e l[i])[j]? = some cv) : Lies T E B w q e l v := by
 generalize hk : CV.sl p e l = k at h
 cases h with
 | sl0 p' e' A cap =>
  simp only [CV.sl.injEq] at hk
  obtain ⟨rfl, rfl, h3⟩ := hk
  have h3 := eq_of_heq h3
  subst h3
  exact .inl ⟨rfl, A, cap, rfl⟩
 | sl p' e' l' g off cap y hc hB hy hz =>
  simp only [CV.sl.injEq] at hk
  obtain ⟨rfl, rfl, h3⟩ := hk
  have h3 := eq_of_heq h3
  subst h3
  exact .inr ⟨g, off, cap, y, rfl, hc, fun i hi j cv hj => ⟨hy i hi j cv (hp i hi j cv hj), hz i hi j cv (hp i hi j cv hj)⟩⟩
 | _ => cases hk
theorem content_spec (hT : TabOk T P) {m : Mem T.Γ} (hm : MemOk T E B w m) {e : TypeId} {x : CV T.Γ} {q : Bool} {l : List (T.Γ.el e).ty} {v : Value} (h : content T m e x = some (q, l)) (hc : Conc T E B w x v) : Lies T E B w q e l v := by
 unfold content at h
 split at h
 ·simp only [Option.some.injEq, Prod.mk.injEq] at h
  obtain ⟨rfl, rfl⟩ := h
  cases hc
  exact .inl ⟨rfl, none, 0, rfl⟩
 ·rename_i p e' l'
  split at h
  ·rename_i he
   subst he
   split at h
   ·simp only [Option.some.injEq, Prod.mk.injEq] at h
    obtain ⟨rfl, rfl⟩ := h
    exact Lies.of hc (fun i hi j cv hj => hj)
   ·simp only [Option.some.injEq, Prod.mk.injEq] at h
    obtain ⟨rfl, rfl⟩ := h
    exact Lies.of hc (fun i hi j cv hj => hj)
   ·split at h
    ·rename_i hfl
     simp only [Option.some.injEq, Prod.mk.injEq] at h
     obtain ⟨rfl, rfl⟩ := h
     refine Lies.of hc (fun i hi j cv hj => ?_)
     rw [cellsQ_at hT.stable, List.getElem?_map] at hj ⊢
     cases hq : (T.cells e' l'[i])[j]? with
     | none => erw [hq] at hj; cases hj
     | some b =>
      obtain ⟨u, rfl⟩ := hT.flat e' hfl _ b (List.mem_of_getElem? hq)
      erw [hq] at hj
      exact hj
    ·cases h
  ·cases h
 ·rename_i s
  generalize hk : CV.own (Γ := T.Γ) s = k at hc
  cases hc with
  | own s' =>
   simp only [CV.own.injEq] at hk
   subst hk
   split at h
   ·rename_i q' e' l' hg
    split at h
    ·rename_i he
     subst he
     simp only [Option.some.injEq, Prod.mk.injEq] at h
     obtain ⟨rfl, rfl⟩ := h
     have hb := hm.blk s _ hg
     cases hb with
     | nil q e hf hs => exact .inl ⟨rfl, none, 0, hs⟩
     | row _ _ _ g cap vs h1 hf hh hs hcap hv hl =>
      refine .inr ⟨g, 0, cap, fun i j => vs[i * (T.Γ.el e').n + j]?.getD undef, hs, hcap, fun i hi j cv hj => ?_⟩
      obtain ⟨y, hy1, hy2⟩ := hl i hi j cv hj
      refine ⟨?_, ?_⟩
      ·simp only [World.cell?, hh, Nat.zero_add]
       rw [hy1]
       rfl
      ·show Conc T E B w cv (vs[i * (T.Γ.el e').n + j]?.getD undef)
       rw [hy1]; exact hy2
    ·cases h
   ·rename_i q' e' l' hg
    split at h
    ·rename_i he
     subst he
     simp only [Option.some.injEq, Prod.mk.injEq] at h
     obtain ⟨rfl, rfl⟩ := h
     have hb := hm.blk s _ hg
     cases hb with
     | cold _ _ _ hcl => exact Lies.of hcl (fun i hi j cv hj => hj)
    ·cases h
   ·cases h
  | _ => cases hk
 ·cases h
theorem Lies.news (hT : TabOk T P) {q : Bool} {e : TypeId} {l : List (T.Γ.el e).ty} {v : Value} (h : Lies T E B w q e l v) (hne : l ≠ []) : ∃ g off cap, ∃ news : List Value, v = .slice (some ⟨g, off, none⟩) l.length cap ∧ l.length ≤ cap ∧ news.length = l.length * (T.Γ.el e).n ∧
  (∀ j u, news[j]? = some u → w.cell? ⟨g, off + j, none⟩ = some u) ∧ ∀ i (h : i < l.length) (j : Nat) cv, (cellsQ T (pvOf q) e l[i])[j]? = some cv → ∃ u, news[i * (T.Γ.el e).n + j]? = some u ∧ Conc T E B w cv u := by
 rcases h with ⟨h, _⟩ | ⟨g, off, cap, y, hv, hcap, hl⟩
 ·exact absurd h hne
 ·have hidx : ∀ j, j < l.length * (T.Γ.el e).n → j / (T.Γ.el e).n < l.length ∧ j % (T.Γ.el e).n < (T.Γ.el e).n := fun j hj => by
   have : 0 < (T.Γ.el e).n := by
    rcases Nat.eq_zero_or_pos (T.Γ.el e).n with h | h
    ·rw [h] at hj; omega
    ·exact h
   exact ⟨(Nat.div_lt_iff_lt_mul this).mpr hj, Nat.mod_lt _ this⟩
  refine ⟨g, off, cap, (List.range (l.length * (T.Γ.el e).n)).map fun j => y (j / (T.Γ.el e).n) (j % (T.Γ.el e).n), hv, hcap, by simp, fun j u hj => ?_, fun i hi j cv hj => ?_⟩
  ·rw [List.getElem?_map] at hj
   cases hr : (List.range (l.length * (T.Γ.el e).n))[j]? with
   | none => rw [hr] at hj; cases hj
   | some k =>
    rw [hr] at hj
    obtain ⟨hlt, hk⟩ := List.getElem?_eq_some_iff.mp hr
    rw [List.getElem_range] at hk
    subst hk
    simp only [Option.map_some, Option.some.injEq] at hj
    subst hj
    rw [List.length_range] at hlt
    obtain ⟨h1, h2⟩ := hidx j hlt
    have hlen : (cellsQ T (pvOf q) e l[j / (T.Γ.el e).n]).length = (T.Γ.el e).n := by rw [cellsQ_length hT.stable, hT.count]
    have := (hl _ h1 (j % (T.Γ.el e).n) _ (List.getElem?_eq_getElem (by omega))).1
    rw [Nat.add_assoc, Nat.mul_comm, Nat.div_add_mod] at this
    exact this
  ·have hjn : j < (T.Γ.el e).n := by
    have := (List.getElem?_eq_some_iff.mp hj).1
    rw [cellsQ_length hT.stable, hT.count] at this
    exact this
   have hlt : i * (T.Γ.el e).n + j < l.length * (T.Γ.el e).n := by
    have : (i + 1) * (T.Γ.el e).n ≤ l.length * (T.Γ.el e).n := Nat.mul_le_mul_right _ (by omega)
    rw [Nat.add_mul] at this
    omega
   refine ⟨y i j, ?_, (hl i hi j cv hj).2⟩
   rw [List.getElem?_map, List.getElem?_range hlt]
   simp only [Option.map_some]
   rw [Nat.mul_comm, Nat.mul_add_div (by omega), Nat.mul_add_mod, Nat.div_eq_of_lt hjn, Nat.mod_eq_of_lt hjn, Nat.add_zero]
theorem run_append_any (w : World) (t ty e : TypeId) (i : TypeInfo) (z : Value) (ht : P.underlying t = some (.slice e)) (hi : P.info? e = some i) (hz : i.zero = some z) (hzs : z.cells.size = i.size) (hsz : 0 < i.size)
  (v : Value) (n : Nat) (xs : List Value) (hown : w.ownsRow 0 e i.size v n xs) (x : Value) (m : Nat) (news : List Value) (hl : news.length = m * i.size)
  (hx : (m = 0 ∧ ∃ A c, x = .slice A 0 c) ∨ ∃ a c, x = .slice (some a) m c ∧ (∀ j u, news[j]? = some u → w.cell? (a.add j) = some u)) (h1 : ∀ u ∈ news, u.oneCell' = true)
  (h63 : n + m ≤ maxLen) (hbytes : (n + m) * i.bytes ≤ 140737488355328) :
  ∃ v' w', (Builtin.append_ #[t, t] ty #[v, x]).run P w = .ok v' w' ∧ w'.ownsRow 0 e i.size v' (n + m) (xs ++ news) ∧ w.grownBy w' v.ownBlock ∧ (v'.ownBlock = v.ownBlock ∨ v'.ownBlock = some w.heap.size) := by
 rcases hx with ⟨rfl, A, c, rfl⟩ | ⟨a, c, rfl, hnews⟩
 ·have hn : news = [] := List.eq_nil_of_length_eq_zero (by simpa using hl)
  subst hn
  rw [List.append_nil]
  refine ⟨v, w, ?_, hown, ⟨rfl, rfl, rfl, Nat.le_refl _, fun _ _ _ => rfl⟩, .inl rfl⟩
  rcases hown.2 with ⟨rfl, rfl⟩ | ⟨g, cap, cur, rfl, _, hg, hnc, _, _, _⟩
  ·cases A <;> simp [Builtin.append_, run_underlying ht, sizeOf, typeInfo, hi, Builtin.lenOf, Builtin.firstCells, loadCells, loadCellsFrom]
  ·cases A <;> simp [Builtin.append_, run_underlying ht, sizeOf, typeInfo, hi, Builtin.lenOf, Builtin.firstCells, loadCells, loadCellsFrom, hnc, storeCells]
 ·have hsmall : n + m ≤ 9223372036854775807 := by simp only [maxLen] at h63; omega
  obtain ⟨v', w', hr, ho, hg, _⟩ := run_append_own (P := P) w 0 t ty e i z i.size i.bytes ht hi hz rfl rfl hzs hsz v n xs hown a m c news hl hnews h1 h63 hbytes (Nat.zero_le _)
  refine ⟨v', w', hr, ho, hg, ?_⟩
  rcases hown.2 with ⟨rfl, rfl⟩ | ⟨g, cap, cur, rfl, _, hgc, hnc, hcm, hcs, htake⟩
  ·by_cases hm : m = 0
   ·subst hm
    have hn : news = [] := List.eq_nil_of_length_eq_zero (by simpa using hl)
    subst hn
    have : (Builtin.append_ #[t, t] ty #[.slice none 0 0, .slice (some a) 0 c]).run P w = .ok (.slice none 0 0) w := by
     simp [Builtin.append_, run_underlying ht, sizeOf, typeInfo, hi, Builtin.lenOf, Builtin.firstCells, loadCells, loadCellsFrom]
    rw [this] at hr
    cases hr
    exact .inl rfl
   ·rw [run_append_nil (P := P) w t ty e i z ht hi hz a m c news hl hnews (by omega) (by omega) (by have hb := hbytes; simp only [Nat.zero_add] at hb; omega)] at hr
    cases hr
    exact .inr rfl
  ·by_cases hroom : n + m ≤ cap
   ·rw [run_append_room (P := P) w t ty e i ht hi g n cap cur hgc a m c news hl hnews h1 hroom (by rw [hl, hcs, ← Nat.add_mul]; exact Nat.mul_le_mul_right _ hroom)] at hr
    cases hr
    exact .inl rfl
   ·rw [run_append_grow (P := P) w t ty e i z ht hi hz ⟨g, 0, none⟩ n cap xs hown.1 (hown.cells (g := g) rfl) a m c news hl hnews (by omega) (by omega) (growslice_fits (by omega) hbytes)] at hr
    cases hr
    exact .inr rfl
end
end Go.Proofs.YtbbpcbjgekencaaGreatDoor.Ev
end
section
set_option linter.unusedVariables false
set_option linter.unusedSimpArgs false
set_option linter.unusedVariables false
namespace Go.Proofs.YtbbpcbjgekencaaGreatDoor.Ev
open Go Go.RowKit
section
variable {T : Tab} {P : Program} {W : World} {O A : Nat → Prop} {E0 : Env} {E E' : Env} {B : Pv → Nat → Prop} {w w' : World}
theorem wide_of (hT : TabOk T P) {m m' : Mem T.Γ} (hno : ∀ g, g < w.heap.size → ¬ Own E m g → ¬ Own E' m' g ∧ w'.heap[g]? = w.heap[g]?) (hsz : w.heap.size ≤ w'.heap.size) {c : CV T.Γ} {q q0 : Bool} {e : TypeId} {v : Value}
  (hf : (∃ u, c = .c u) ∨ ((∃ e' l', c = .sl .near e' l') ∧ T.flat e = false)) (hq : q = true → q0 = true) (hc : Conc T E (SB T W O A E m w) w (c.at (pvOf q)) v) :
  Conc T E' (SB T W O A E' m' w') w' (c.at (pvOf (rq T q0 e))) v := by
 rcases hf with ⟨u, rfl⟩ | ⟨⟨e', l', rfl⟩, hfl⟩
 ·have hc : Conc T E (SB T W O A E m w) w (.c u) v := hc
  cases hc
  exact .c _
 ·have hc : Conc T E (SB T W O A E m w) w (.sl (pvOf q) e' l') v := hc
  show Conc T E' _ w' (.sl (pvOf (rq T q0 e)) e' l') v
  simp only [rq, hfl]
  refine hc.tr (E' := E') (B' := SB T W O A E' m' w') (w' := w') (f := id) (h := fun _ => pvOf q0) hT.stable ⟨fun s hs => by simp [CV.names] at hs, fun p hp g hg => ?_⟩
  simp only [CV.pv, Option.some.injEq] at hp
  subst hp
  have hlt := hg.lt
  have hno2 : ¬ Own E m g := by cases q <;> exact hg.2.1
  have h1 := hno g hlt hno2
  refine ⟨?_, fun o u hu => ?_⟩
  ·cases q
   ·cases q0
    ·exact ⟨by omega, h1.1, hg.2.2⟩
    ·exact ⟨by omega, h1.1, .inl hg.2.2⟩
   ·rw [hq rfl]
    exact ⟨by omega, h1.1, hg.2.2⟩
  ·simp only [World.cell?] at hu ⊢
   rw [h1.2]
   exact hu
theorem cell_one (hT : TabOk T P) {q : Bool} {e : TypeId} {x : (T.Γ.el e).ty} {cv : CV T.Γ} {u : Value} (h : cv ∈ cellsQ T (pvOf q) e x) (hc : Conc T E B w cv u) : u.oneCell' = true := by
 rcases cell_form hT.stable h with ⟨v, rfl⟩ | ⟨e', l', rfl⟩
 ·cases hc
  rw [cellsQ_at hT.stable] at h
  obtain ⟨c, hc, he⟩ := List.mem_map.mp h
  rcases hT.stable e x c hc with ⟨v', rfl⟩ | ⟨e2, l2, rfl⟩
  ·simp only [CV.at, CV.c.injEq] at he
   subst he
   exact hT.single e x _ hc
  ·cases he
 ·exact (sl_cells hc).2
theorem append_row (hT : TabOk T P) {m m' : Mem T.Γ} {n : Nat} {e : TypeId} {q1 q2 : Bool} {l1 l2 : List (T.Γ.el e).ty} {xs news : List Value} {v' : Value} (hpos : 0 < (T.Γ.el e).n)
  (hx : xs.length = l1.length * (T.Γ.el e).n) (hown : w'.ownsRow 0 e (T.Γ.el e).n v' (l1.length + l2.length) (xs ++ news))
  (hno : ∀ g, g < w.heap.size → ¬ Own E m g → ¬ Own (E.set n v'.ownBlock v' fun g => v'.ownBlock = some g) m' g ∧ w'.heap[g]? = w.heap[g]?) (hsz : w.heap.size ≤ w'.heap.size)
  (h1 : ∀ i (h : i < l1.length) (j : Nat) cv, (cellsQ T (pvOf q1) e l1[i])[j]? = some cv → ∃ u, xs[i * (T.Γ.el e).n + j]? = some u ∧ Conc T E (SB T W O A E m w) w cv u)
  (h2 : ∀ i (h : i < l2.length) (j : Nat) cv, (cellsQ T (pvOf q2) e l2[i])[j]? = some cv → ∃ u, news[i * (T.Γ.el e).n + j]? = some u ∧ Conc T E (SB T W O A E m w) w cv u) :
  BlkOk T (E.set n v'.ownBlock v' fun g => v'.ownBlock = some g) (SB T W O A (E.set n v'.ownBlock v' fun g => v'.ownBlock = some g) m' w') w' n (.row (rq T (q1 || q2) e) e (l1 ++ l2)) := by
 rcases hown.2 with ⟨rfl, h0⟩ | ⟨g, cap, cur, rfl, _, hg, hnc, hcm, hcs, htake⟩
 ·have e1 : l1 = [] := List.eq_nil_of_length_eq_zero (by omega)
  have e2 : l2 = [] := List.eq_nil_of_length_eq_zero (by omega)
  subst e1
  subst e2
  exact .nil _ e (fun g h => by rw [Env.set_same.2.2] at h; cases h) Env.set_same.2.1
 ·refine .row _ e (l1 ++ l2) g cap cur Env.set_same.1 (fun g' => by rw [Env.set_same.2.2]; exact ⟨fun h => (Option.some.inj h).symm, fun h => by rw [h]; rfl⟩) hg (by rw [Env.set_same.2.1, List.length_append]) (by rw [List.length_append]; exact hnc) ⟨hcs, hcm⟩ (fun r hr j cv hj => ?_)
  rw [List.length_append] at hr
  have hjn : j < (T.Γ.el e).n := by
   have := (List.getElem?_eq_some_iff.mp hj).1
   rw [cellsQ_length hT.stable, hT.count] at this
   exact this
  have hr1 : (r + 1) * (T.Γ.el e).n ≤ (l1.length + l2.length) * (T.Γ.el e).n := Nat.mul_le_mul_right _ (by omega)
  rw [Nat.add_mul, Nat.one_mul] at hr1
  have hcur : cur[r * (T.Γ.el e).n + j]? = (xs ++ news)[r * (T.Γ.el e).n + j]? := by
   rw [← htake, List.getElem?_take_of_lt (by omega), Array.getElem?_toList]
  rw [hcur]
  rw [cellsQ_at hT.stable, List.getElem?_map] at hj
  cases hb : (T.cells e (l1 ++ l2)[r])[j]? with
  | none => rw [hb] at hj; cases hj
  | some b =>
   rw [hb] at hj
   simp only [Option.map_some, Option.some.injEq] at hj
   subst hj
   have hflat := cell_flat hT hb
   by_cases hlt : r < l1.length
   ·have hel : (l1 ++ l2)[r] = l1[r] := List.getElem_append_left hlt
    rw [hel] at hb
    obtain ⟨u, hu1, hu2⟩ := h1 r hlt j (b.at (pvOf q1)) (by rw [cellsQ_at hT.stable, List.getElem?_map, hb]; rfl)
    have hr2 : (r + 1) * (T.Γ.el e).n ≤ l1.length * (T.Γ.el e).n := Nat.mul_le_mul_right _ (by omega)
    rw [Nat.add_mul, Nat.one_mul] at hr2
    exact ⟨u, by rw [List.getElem?_append_left (by omega)]; exact hu1, wide_of hT hno hsz hflat (fun h => by rw [h]; rfl) hu2⟩
   ·have hel : (l1 ++ l2)[r] = l2[r - l1.length]'(by omega) := List.getElem_append_right (by omega)
    rw [hel] at hb
    obtain ⟨u, hu1, hu2⟩ := h2 (r - l1.length) (by omega) j (b.at (pvOf q2)) (by rw [cellsQ_at hT.stable, List.getElem?_map, hb]; rfl)
    have hr2 : l1.length * (T.Γ.el e).n ≤ r * (T.Γ.el e).n := Nat.mul_le_mul_right _ (by omega)
    refine ⟨u, ?_, wide_of hT hno hsz hflat (fun h => by rw [h, Bool.or_true]) hu2⟩
    rw [List.getElem?_append_right (by omega), hx, show r * (T.Γ.el e).n + j - l1.length * (T.Γ.el e).n = (r - l1.length) * (T.Γ.el e).n + j by rw [Nat.sub_mul]; omega]
    exact hu1
end
end Go.Proofs.YtbbpcbjgekencaaGreatDoor.Ev
end
section
set_option linter.unusedVariables false
set_option linter.unusedSimpArgs false
set_option linter.unusedVariables false
namespace Go.Proofs.YtbbpcbjgekencaaGreatDoor.Ev
open Go Go.RowKit
section
variable {T : Tab} {P : Program} {W : World} {O A : Nat → Prop} {E0 : Env} {E E' : Env} {B : Pv → Nat → Prop} {w w' : World}
theorem Lies.both (hT : TabOk T P) {q : Bool} {e : TypeId} {l : List (T.Γ.el e).ty} {v : Value} (hpos : 0 < (T.Γ.el e).n) (h : Lies T E B w q e l v) : ∃ news : List Value, news.length = l.length * (T.Γ.el e).n ∧
  ((l.length = 0 ∧ ∃ A c, v = .slice A 0 c) ∨ ∃ a c, v = .slice (some a) l.length c ∧ (∀ j u, news[j]? = some u → w.cell? (a.add j) = some u)) ∧ (∀ u ∈ news, u.oneCell' = true) ∧
  ∀ i (h : i < l.length) (j : Nat) cv, (cellsQ T (pvOf q) e l[i])[j]? = some cv → ∃ u, news[i * (T.Γ.el e).n + j]? = some u ∧ Conc T E B w cv u := by
 by_cases hne : l = []
 ·subst hne
  refine ⟨[], by simp, .inl ⟨rfl, ?_⟩, (by simp), fun i hi => absurd hi (by simp)⟩
  rcases h with ⟨_, h⟩ | ⟨g, off, cap, y, hv, _⟩
  ·exact h
  ·exact ⟨_, _, hv⟩
 ·obtain ⟨g, off, cap, news, hv, hcap, hl, hn, hc⟩ := h.news hT hne
  refine ⟨news, hl, .inr ⟨⟨g, off, none⟩, cap, hv, fun j u hj => by rw [Addr.add_mid]; exact hn j u hj⟩, fun u hu => ?_, hc⟩
  obtain ⟨k, hk, rfl⟩ := List.getElem_of_mem hu
  have hk2 : k < l.length * (T.Γ.el e).n := by omega
  have h1 : k / (T.Γ.el e).n < l.length := (Nat.div_lt_iff_lt_mul hpos).mpr hk2
  have h2 : k % (T.Γ.el e).n < (T.Γ.el e).n := Nat.mod_lt _ hpos
  have hlen : (cellsQ T (pvOf q) e l[k / (T.Γ.el e).n]).length = (T.Γ.el e).n := by rw [cellsQ_length hT.stable, hT.count]
  have hcv := List.getElem?_eq_getElem (l := cellsQ T (pvOf q) e l[k / (T.Γ.el e).n]) (i := k % (T.Γ.el e).n) (by omega)
  obtain ⟨u, hu1, hu2⟩ := hc _ h1 _ _ hcv
  have : k / (T.Γ.el e).n * (T.Γ.el e).n + k % (T.Γ.el e).n = k := by rw [Nat.mul_comm]; exact Nat.div_add_mod _ _
  rw [this, List.getElem?_eq_getElem hk] at hu1
  cases hu1
  exact cell_one hT (List.mem_of_getElem? hcv) hu2
theorem grow_own {m : Mem T.Γ} {s n : Nat} {b : Blk T.Γ} {v v' : Value} {t g : Nat} (ho : OwnBy (E.set n v'.ownBlock v' fun g => v'.ownBlock = some g) (m.sets [(n, some b), (s, none)]) t g) :
  (t = n ∧ v'.ownBlock = some g) ∨ (t ≠ n ∧ t ≠ s ∧ OwnBy E m t g) := by
 obtain ⟨b', hb', hh, hφ⟩ := ho
 by_cases e : t = n
 ·subst e
  rw [Env.set_same.2.2] at hφ
  exact .inl ⟨rfl, hφ⟩
 ·rw [(Env.set_other e).2.2] at hφ
  rw [get_sets] at hb'
  simp only [look, if_neg (fun h : n = t => e h.symm)] at hb'
  by_cases e2 : s = t
  ·rw [if_pos e2] at hb'; cases hb'
  ·rw [if_neg e2] at hb'
   exact .inr ⟨e, fun h => e2 h.symm, b', hb', hh, hφ⟩
theorem grow_no {m : Mem T.Γ} {s n : Nat} {b : Blk T.Γ} {v v' : Value} (hs : ∀ g, OwnBy E m s g ↔ v.ownBlock = some g) (hg : w.grownBy w' v.ownBlock) (hv : v'.ownBlock = v.ownBlock ∨ v'.ownBlock = some w.heap.size) {g : Nat} (hlt : g < w.heap.size) (hn : ¬ Own E m g) :
  ¬ Own (E.set n v'.ownBlock v' fun g => v'.ownBlock = some g) (m.sets [(n, some b), (s, none)]) g ∧ w'.heap[g]? = w.heap[g]? := by
 have hne : v.ownBlock ≠ some g := fun h => hn ⟨s, (hs g).mpr h⟩
 refine ⟨fun ⟨t, ht⟩ => ?_, hg.block g hlt (fun h => hne h.symm)⟩
 rcases grow_own (v := v) ht with ⟨_, h⟩ | ⟨_, _, h⟩
 ·rcases hv with h2 | h2
  ·exact hne (h2 ▸ h)
  ·rw [h2] at h
   have := Option.some.inj h
   omega
 ·exact hn ⟨t, h⟩
theorem grow_chg {m : Mem T.Γ} {s n : Nat} {b : Blk T.Γ} {v v' : Value} (hs : ∀ g, OwnBy E m s g ↔ v.ownBlock = some g) (hne : s ≠ n) (hg : w.grownBy w' v.ownBlock) (hv : v'.ownBlock = v.ownBlock ∨ v'.ownBlock = some w.heap.size)
  (hb : BlkOk T (E.set n v'.ownBlock v' fun g => v'.ownBlock = some g) (SB T W O A (E.set n v'.ownBlock v' fun g => v'.ownBlock = some g) (m.sets [(n, some b), (s, none)]) w') w' n b) :
  Chg T W O A E (E.set n v'.ownBlock v' fun g => v'.ownBlock = some g) m w w' ⟨[(n, some b), (s, none)], [n], [s]⟩ := by
 have lk : ∀ t, look [(n, some b), (s, none)] t = if n = t then some (some b) else if s = t then some none else none := fun t => rfl
 have cases_ : ∀ t, (look [(n, some b), (s, none)] t).isSome = true → t = n ∨ t = s := fun t h => by
  rw [lk] at h
  split at h
  ·exact .inl (Eq.symm ‹_›)
  ·split at h
   ·exact .inr (Eq.symm ‹_›)
   ·cases h
 have ln : look [(n, some b), (s, none)] n = some (some b) := by rw [lk, if_pos rfl]
 have ls : look [(n, some b), (s, none)] s = some none := by rw [lk, if_neg (fun h => hne h.symm), if_pos rfl]
 refine ⟨fun t h => ?_, fun t h => ?_, fun t h => Env.set_other (fun e => h (by simp [e])), hg.os, hg.tape, hg.output, hg.size, fun g hlt h => hg.block g hlt (fun e => h s (by simp) ((hs g).mpr e.symm)), fun t b' h => ?_, fun t g h ho => ?_, fun t t' g h1 h2 h3 h4 => ?_, fun t h => ?_⟩
 ·simp at h; subst h; rw [ln]; rfl
 ·simp at h; subst h; rw [ls]; rfl
 ·rcases cases_ t (by rw [h]; rfl) with rfl | rfl
  ·rw [ln] at h
   cases h
   exact hb
  ·rw [ls] at h
   cases h
 ·rcases grow_own (v := v) ho with ⟨rfl, h2⟩ | ⟨h2, h3, _⟩
  ·rcases hv with h3 | h3
   ·exact .inr ⟨s, by rw [ls]; rfl, (hs g).mpr (h3 ▸ h2)⟩
   ·rw [h3] at h2
    exact .inl (by have := Option.some.inj h2; omega)
  ·rcases cases_ t h with h4 | h4
   ·exact absurd h4 h2
   ·exact absurd h4 h3
 ·have at_ : ∀ t, (look [(n, some b), (s, none)] t).isSome = true → OwnBy (E.set n v'.ownBlock v' fun g => v'.ownBlock = some g) (m.sets [(n, some b), (s, none)]) t g → t = n := fun t h ho => by
   rcases grow_own (v := v) ho with ⟨rfl, _⟩ | ⟨h2, h3, _⟩
   ·rfl
   ·rcases cases_ t h with h4 | h4
    ·exact h4
    ·exact absurd h4 h3
  exact (at_ t h1 h3).trans (at_ t' h2 h4).symm
 ·rcases cases_ t h with rfl | rfl
  ·exact .inr (.inl (by simp))
  ·exact .inl (by simp)
end
end Go.Proofs.YtbbpcbjgekencaaGreatDoor.Ev
end
section
set_option linter.unusedVariables false
set_option linter.unusedSimpArgs false
set_option linter.unusedVariables false
namespace Go.Proofs.YtbbpcbjgekencaaGreatDoor.Ev
open Go Go.RowKit
section
variable {T : Tab} {P : Program} {W : World} {O A : Nat → Prop} {E0 : Env} {E E' : Env} {B : Pv → Nat → Prop} {w w' : World}
theorem own_conc {n : Nat} {v : Value} {r : Option Nat} {f : Nat → Prop} : ConcA T (E.set n r v f) B w (.t (.cell (.own n))) v := by
 refine .t (.cell ?_)
 have h2 := Conc.own (T := T) (E := E.set n r v f) (B := B) (w := w) n
 rw [Env.set_same.2.1] at h2
 exact h2
theorem two_types {c : Call} {t t' : TypeId} (h : c.argTypes.toList = [t, t']) (he : Nat.beq t t' = true) : c.argTypes = #[t, t] := by
 have := Nat.eq_of_beq_eq_true he
 subst this
 rw [← Array.toArray_toList (xs := c.argTypes), h]
theorem append_sound (hT : TabOk T P) (S : FuncId → Option (FnS T.Γ)) (o : Oper) (c : Call) (ho : o.op = .call c) (hcal : c.callee = .builtin .append) : OpSound T P S o := by
 intro W O A E0 k st E a w v mc st' N Q hR he ha hN
 simp only [evalD, ho, hcal] at he
 split at he
 ·rename_i t t' d x y htl hd hargs
  split at he
  ·rename_i e p r hbeq hu hp hr
   have hty := two_types htl hbeq
   have hm2 := map_two (a := a) hargs
   split at he
   ·rename_i q1 l1 q2 l2 hc1 hc2
    have info : T.std e = true → l1.length + l2.length ≤ big → ∃ i z, P.info? e = some i ∧ i.zero = some z ∧ i.size = (T.Γ.el e).n ∧ z.cells.size = i.size ∧ 0 < i.size ∧ (l1.length + l2.length) * i.bytes ≤ 140737488355328 ∧ l1.length + l2.length ≤ maxLen := by
     intro hs hbig
     obtain ⟨hsz, hpos, _, zz, hzz, hcells, _⟩ := hT.std e hs
     obtain ⟨i, zv, hi, hiz, hzc⟩ := hT.zero _ _ hzz
     have hsize : i.size = (T.Γ.el e).n := by
      have := hT.size _ _ hsz
      rw [hi] at this
      simpa using this
     have hzn : zv.cells.size = (T.Γ.el e).n := by
      have := hT.count e (T.Γ.el e).z
      rw [← hcells.1, ← hzc] at this
      simpa using this
     have hby := (hT.bytes e hs i hi).2
     simp only [big] at hbig
     refine ⟨i, zv, hi, hiz, hsize, by omega, by omega, ?_, by simp only [maxLen]; omega⟩
     calc (l1.length + l2.length) * i.bytes ≤ 1099511627776 * 128 := Nat.mul_le_mul hbig hby
      _ = 140737488355328 := rfl
    have conc : ∀ {z : Operand} {u : CV T.Γ}, st.eval z = some (.t (.cell u)) → Conc T E (SB T W O A E st.mem w) w u (a.eval z) := by
     intro z u hz
     have h1 := eval_conc hR hz
     generalize a.eval z = vz at h1 ⊢
     cases h1 with
     | t h1 =>
     cases h1 with
     | cell h1 => exact h1
    have hl2 := content_spec hT hR.mem hc2 (conc hr)
    split at he
    ·rename_i v0 hs
     rcases br_some he with ⟨hbig, he⟩ | ⟨_, he⟩
     ·simp only [Option.some.injEq, Prod.mk.injEq] at he
      obtain ⟨rfl, rfl⟩ := he
      obtain ⟨i, z, hi, hz, hsize, hzs, hpos, hbytes, h63⟩ := info hs hbig
      rw [hsize] at hpos
      obtain ⟨news, hnl, hny, hn1, hnc⟩ := hl2.both hT hpos
      have hv0 : a.eval x = .slice none 0 0 ∧ l1 = [] := by
       have := eval_cell hR hp
       unfold content at hc1
       split at hc1
       ·rename_i heq
        simp only [CV.c.injEq] at heq
        subst heq
        simp only [Option.some.injEq, Prod.mk.injEq] at hc1
        exact ⟨this, hc1.2.symm⟩
       ·rename_i heq; cases heq
       ·rename_i heq; cases heq
       ·cases hc1
      obtain ⟨hv, rfl⟩ := hv0
      obtain ⟨v', w', hrun, hown, hg, hob⟩ := run_append_any (P := P) w t o.type e i z (hT.und _ _ hu) hi hz hzs (by omega) (.slice none 0 0) 0 [] (World.ownsRow_nil w 0 e i.size) (a.eval y) l2.length news (by rw [hsize]; exact hnl) hny hn1 (by simpa using h63) (by simpa using hbytes)
      have hob : v'.ownBlock = none ∨ v'.ownBlock = some w.heap.size := hob
      have hB : Below w.heap.size w w' := ⟨hg.os, hg.tape, hg.output, hg.size, fun k hk => hg.block k hk (fun h => by cases h)⟩
      have hf : ∀ g, v'.ownBlock = some g → w.heap.size ≤ g := fun g h => by
       rcases hob with h2 | h2
       ·rw [h2] at h; cases h
       ·rw [h2] at h; have := Option.some.inj h; omega
      refine wp_new (r := v'.ownBlock) (u := v') (f := fun g => v'.ownBlock = some g) (x := v') hT hR ha (builtin_run (P := P) (w := w) (s := Builtin.append_ c.argTypes o.type (c.args.map a.eval)) ho hcal (fun _ => rfl) (by rw [hm2, hty, hv]; exact hrun)) hB hf (fun hfr => ?_) (fun hfr => own_conc) hN
      refine append_row (w := w) (l1 := []) (xs := []) hT hpos (by simp) (by rw [hsize] at hown; exact hown) (fun g hlt hn => ⟨fun ⟨s, b, hb, hh, hφ⟩ => ?_, hB.block g hlt⟩) hg.size (fun i hi => absurd hi (by simp)) hnc
      by_cases e1 : s = nmIn st.mem d
      ·subst e1
       rw [Env.set_same.2.2] at hφ
       have := hf g hφ
       omega
      ·rw [(Env.set_other e1).2.2] at hφ
       rw [get_sets] at hb
       simp only [look, if_neg (fun h : nmIn st.mem d = s => e1 h.symm)] at hb
       exact hn ⟨s, b, hb, hh, hφ⟩
     ·cases he
    ·rename_i s hs
     split at he
     ·cases he
     ·rename_i hhot
      rcases br_some he with ⟨hbig, he⟩ | ⟨_, he⟩
      ·simp only [Option.some.injEq, Prod.mk.injEq] at he
       obtain ⟨rfl, rfl⟩ := he
       obtain ⟨i, z, hi, hz, hsize, hzs, hpos, hbytes, h63⟩ := info hs hbig
       rw [hsize] at hpos
       obtain ⟨news, hnl, hny, hn1, hnc⟩ := hl2.both hT hpos
       have hsv : a.eval x = E.σ s := by
        have h1 := conc hp
        generalize hk : CV.own (Γ := T.Γ) s = kk at h1
        generalize a.eval x = vx at h1
        cases h1 with
        | own s' => cases hk; rfl
        | _ => cases hk
       have hrow : ∃ q, st.mem.get s = some (.row q e l1) ∧ q = q1 := by
        simp only [content] at hc1
        cases hg : st.mem.get s with
        | none => rw [hg] at hc1; cases hc1
        | some b =>
         rw [hg] at hc1
         cases b with
         | row q e' l =>
          simp only at hc1
          split at hc1
          ·rename_i hee
           subst hee
           simp only [Option.some.injEq, Prod.mk.injEq] at hc1
           obtain ⟨rfl, rfl⟩ := hc1
           exact ⟨_, rfl, rfl⟩
          ·cases hc1
         | cold q e' l => simp [hotRows, hg] at hhot
         | box _ _ => cases hc1
         | obj _ _ => cases hc1
       obtain ⟨q, hrow, hqq⟩ := hrow
       rw [hqq] at hrow
       obtain ⟨xs, hxs, hown0, hxc, hsown⟩ : ∃ xs : List Value, xs.length = l1.length * (T.Γ.el e).n ∧ w.ownsRow 0 e i.size (E.σ s) l1.length xs ∧
         (∀ i (h : i < l1.length) (j : Nat) cv, (cellsQ T (pvOf q1) e l1[i])[j]? = some cv → ∃ u, xs[i * (T.Γ.el e).n + j]? = some u ∧ Conc T E (SB T W O A E st.mem w) w cv u) ∧ ∀ g, OwnBy E st.mem s g ↔ (E.σ s).ownBlock = some g := by
        have hb := hR.mem.blk s _ hrow
        cases hb with
        | nil q e hf hsv2 =>
         refine ⟨[], by simp, by rw [hsv2]; exact World.ownsRow_nil w 0 e i.size, fun i hi => absurd hi (by simp), fun g => ⟨fun ⟨b, hb, _, hφ⟩ => absurd hφ (hf g), fun h => by rw [hsv2] at h; cases h⟩⟩
        | row _ _ _ g cap vs h1 hf hh hs2 hcap hv hl =>
         have hle : l1.length * (T.Γ.el e).n ≤ cap * (T.Γ.el e).n := Nat.mul_le_mul_right _ hcap
         have hlen : (vs.toList.take (l1.length * (T.Γ.el e).n)).length = l1.length * (T.Γ.el e).n := by rw [List.length_take, Array.length_toList (xs := vs), hv.1]; omega
         refine ⟨vs.toList.take (l1.length * (T.Γ.el e).n), hlen, ⟨by rw [hlen, hsize], .inr ⟨g, cap, vs, hs2, Nat.zero_le _, hh, hcap, hv.2, by rw [hsize]; exact hv.1, by rw [hsize]⟩⟩, fun i hi j cv hj => ?_, fun g' => ⟨fun ⟨b, hb, _, hφ⟩ => ?_, fun h => ⟨_, hrow, rfl, ?_⟩⟩⟩
         ·have hjn : j < (T.Γ.el e).n := by
           have := (List.getElem?_eq_some_iff.mp hj).1
           rw [cellsQ_length hT.stable, hT.count] at this
           exact this
          have hr1 : (i + 1) * (T.Γ.el e).n ≤ l1.length * (T.Γ.el e).n := Nat.mul_le_mul_right _ (by omega)
          rw [Nat.add_mul, Nat.one_mul] at hr1
          rw [List.getElem?_take_of_lt (by omega), Array.getElem?_toList]
          exact hl i hi j cv hj
         ·rw [hs2, (hf g').mp hφ]; rfl
         ·rw [hs2] at h
          exact (hf g').mpr (Option.some.inj h).symm
       obtain ⟨v', w', hrun, hown, hg, hob⟩ := run_append_any (P := P) w t o.type e i z (hT.und _ _ hu) hi hz hzs (by omega) (E.σ s) l1.length xs hown0 (a.eval y) l2.length news (by rw [hsize]; exact hnl) hny hn1 h63 hbytes
       have hne : s ≠ nmIn st.mem d := fun h => by
        have := (free_spec (nmIn_free ha)).2.1
        rw [← h, hrow] at this
        cases this
       refine wp_value (builtin_run (P := P) (w := w) (s := Builtin.append_ c.argTypes o.type (c.args.map a.eval)) ho hcal (fun _ => rfl) (by rw [hm2, hty, hsv]; exact hrun)) (hN _ _ _ (mem_rel hT hR ha (by simp) (grow_chg hsown hne hg hob ?_) own_conc))
       exact append_row hT hpos hxs (by rw [hsize] at hown; exact hown) (fun g hlt hn => grow_no hsown hg hob hlt hn) hg.size hxc hnc
      ·cases he
    ·cases he
   ·cases he
  ·cases he
 ·cases he
end
end Go.Proofs.YtbbpcbjgekencaaGreatDoor.Ev
end
section
set_option linter.unusedVariables false
set_option linter.unusedSimpArgs false
set_option linter.unusedVariables false
namespace Go.Proofs.YtbbpcbjgekencaaGreatDoor.Ev
open Go Go.RowKit
section
variable {T : Tab} {P : Program} {W : World} {O A : Nat → Prop} {E0 : Env} {E E' : Env} {B : Pv → Nat → Prop} {w w' : World}
theorem run_copy_some (w : World) (tys : Array TypeId) (t ty e : TypeId) (i : TypeInfo) (htys : tys[0]? = some t) (ht : P.underlying t = some (.slice e)) (hi : P.info? e = some i) {g n cap : Nat} {vs : Array Value} (hg : w.heap[g]? = some (.cells vs e (0, 0))) (hvs : n * i.size ≤ vs.size) (x : Value) (m : Nat) (news : List Value) (hl : news.length = m * i.size)
  (hx : (m = 0 ∧ ∃ A c, x = .slice A 0 c) ∨ ∃ a c, x = .slice (some a) m c ∧ (∀ j u, news[j]? = some u → w.cell? (a.add j) = some u)) (h1 : ∀ u ∈ news, u.oneCell' = true) :
  (Builtin.copy_ tys ty #[.slice (some ⟨g, 0, none⟩) n cap, x]).run P w = .ok (goInt (min m n)) (w.setCells g 0 (news.take (min m n * i.size))) := by
 rcases hx with ⟨rfl, A, c, rfl⟩ | ⟨a, c, rfl, hnews⟩
 ·have hn : news = [] := List.eq_nil_of_length_eq_zero (by simpa using hl)
  subst hn
  cases A <;> simp [Builtin.copy_, htys, run_underlying ht, sizeOf, typeInfo, hi, Builtin.lenOf, Builtin.firstCells, loadCells, loadCellsFrom, storeCells, World.setCells] <;> (congr 1 <;> omega)
 ·have hk : min m n * i.size ≤ m * i.size := Nat.mul_le_mul_right _ (Nat.min_le_left _ _)
  have hk2 : min m n * i.size ≤ n * i.size := Nat.mul_le_mul_right _ (Nat.min_le_right _ _)
  have hlen : (news.take (min m n * i.size)).length = min m n * i.size := by rw [List.length_take]; omega
  have hf := run_firstCells_some (P := P) w i.size (min m n) a m c (news.take (min m n * i.size)) hlen (fun j u hj => by
   rw [List.getElem?_take] at hj
   split at hj
   ·exact hnews j u hj
   ·cases hj)
  have th := there_of (n := min m n * i.size) (o := 0) hg (by omega)
  have hst := run_storeCells_cells (P := P) g 0 (news.take (min m n * i.size)) 0 w (fun j hj => by simpa using (th j (by omega)).1) (fun j hj => by simpa using (th j (by omega)).2) (fun u hu => h1 u (List.mem_of_mem_take hu))
  simp only [Nat.add_zero] at hst
  have hmin : Nat.min m n = min m n := rfl
  simp only [Builtin.copy_, htys]
  simp [run_underlying ht, sizeOf, typeInfo, hi, Builtin.lenOf, hmin, hf, hst]
  congr 1
  omega
theorem run_copy_nil (w : World) (tys : Array TypeId) (t ty e : TypeId) (i : TypeInfo) (htys : tys[0]? = some t) (ht : P.underlying t = some (.slice e)) (hi : P.info? e = some i) (A : Option Addr) (m c : Nat) :
  (Builtin.copy_ tys ty #[.slice none 0 0, .slice A m c]).run P w = .ok (goInt 0) w := by
 cases A <;> simp [Builtin.copy_, htys, run_underlying ht, sizeOf, typeInfo, hi, Builtin.lenOf, Builtin.firstCells, loadCells, loadCellsFrom]
end
end Go.Proofs.YtbbpcbjgekencaaGreatDoor.Ev
end
section
set_option linter.unusedVariables false
set_option linter.unusedSimpArgs false
set_option linter.unusedVariables false
namespace Go.Proofs.YtbbpcbjgekencaaGreatDoor.Ev
open Go Go.RowKit
section
variable {T : Tab} {P : Program} {W : World} {O A : Nat → Prop} {E0 : Env} {E E' : Env} {B : Pv → Nat → Prop} {w w' : World}
theorem Lies.slice {q : Bool} {e : TypeId} {l : List (T.Γ.el e).ty} {v : Value} (h : Lies T E B w q e l v) : ∃ A c, v = .slice A l.length c := by
 rcases h with ⟨rfl, A, c, rfl⟩ | ⟨g, off, cap, y, rfl, _⟩
 ·exact ⟨A, c, rfl⟩
 ·exact ⟨_, _, rfl⟩
theorem copy_sound (hT : TabOk T P) (S : FuncId → Option (FnS T.Γ)) (o : Oper) (c : Call) (ho : o.op = .call c) (hcal : c.callee = .builtin .copy) : OpSound T P S o := by
 intro W O A E0 k st E a w v mc st' N Q hR he ha hN
 simp only [evalD, ho, hcal] at he
 split at he
 ·rename_i e _ x y hty1 hty2 hargs
  have hm2 := map_two (a := a) hargs
  split at he
  ·rename_i s r hp hr
   split at he
   ·rename_i q1 e' l1 q2 l2 hrow hc2
    split at he
    ·rename_i hee
     subst hee
     split at he
     ·rename_i hs
      simp only [Option.some.injEq, Prod.mk.injEq] at he
      obtain ⟨rfl, rfl⟩ := he
      have conc : ∀ {z : Operand} {u : CV T.Γ}, st.eval z = some (.t (.cell u)) → Conc T E (SB T W O A E st.mem w) w u (a.eval z) := by
       intro z u hz
       have h1 := eval_conc hR hz
       generalize a.eval z = vz at h1 ⊢
       cases h1 with
       | t h1 =>
       cases h1 with
       | cell h1 => exact h1
      have hl2 := content_spec hT hR.mem hc2 (conc hr)
      obtain ⟨t, ht, hu⟩ : ∃ t, c.argTypes[0]? = some t ∧ T.und t = some (.slice e') := by
       cases ht : c.argTypes[0]? with
       | none => rw [ht] at hty1; cases hty1
       | some t => rw [ht] at hty1; exact ⟨t, rfl, hty1⟩
      obtain ⟨hsz, hpos, _, _⟩ := hT.std e' hs
      obtain ⟨i, hi, hsize⟩ : ∃ i, P.info? e' = some i ∧ i.size = (T.Γ.el e').n := by
       have := hT.size _ _ hsz
       cases hi : P.info? e' with
       | none => rw [hi] at this; cases this
       | some i => rw [hi] at this; exact ⟨i, rfl, by simpa using this⟩
      have hsv : a.eval x = E.σ s := by
       have h1 := conc hp
       generalize hk : CV.own (Γ := T.Γ) s = kk at h1
       generalize a.eval x = vx at h1
       cases h1 with
       | own s' => cases hk; rfl
       | _ => cases hk
      obtain ⟨news, hnl, hny, hn1, hnc⟩ := hl2.both hT hpos
      have hb := hR.mem.blk s _ hrow
      cases hb with
      | nil q e hf hsv2 =>
       obtain ⟨A2, c2, hy2⟩ := hl2.slice
       have hone : One T E E st.mem s [] w w := ⟨fun s _ => ⟨rfl, rfl, rfl⟩, fun g h => absurd h (hf g), fun g _ _ => rfl, rfl, rfl, rfl, Nat.le_refl _, fun p h => (by cases h), fun p h => (by cases h)⟩
       refine wp_value (builtin_run (P := P) (w := w) (s := Builtin.copy_ c.argTypes o.type (c.args.map a.eval)) ho hcal (fun _ => rfl) (by rw [hm2, hsv, hsv2, hy2]; exact run_copy_nil w c.argTypes t o.type e' i ht (hT.und _ _ hu) hi A2 _ c2)) (hN _ _ _ (mem_rel hT hR ha (by simp) (hone.chg hT hR (.inr ⟨rfl, rfl, rfl, rfl, rfl⟩) ?_) ?_))
       ·have : (l2.take ([] : List (T.Γ.el e').ty).length ++ ([] : List (T.Γ.el e').ty).drop l2.length) = [] := by simp
        show BlkOk T E _ w s (.row _ e' (l2.take ([] : List (T.Γ.el e').ty).length ++ ([] : List (T.Γ.el e').ty).drop l2.length))
        rw [this]
        exact .nil _ e' hf hsv2
       ·have h0 : goInt (min (l2.length : Int) (([] : List (T.Γ.el e').ty).length : Int)) = goInt 0 := by
         congr 1
         simp only [List.length_nil]
         omega
        rw [h0]
        exact .t (.cell (.c _))
      | row _ _ _ g cap vs hg hf hh hs2 hcap hv hl =>
       have hle : l1.length * (T.Γ.el e').n ≤ cap * (T.Γ.el e').n := Nat.mul_le_mul_right _ hcap
       have hrun := run_copy_some w c.argTypes t o.type e' i ht (hT.und _ _ hu) hi (n := l1.length) (cap := cap) hh (by rw [hsize, hv.1]; exact hle) (a.eval y) l2.length news (by rw [hsize]; exact hnl) hny hn1
       rw [hsize] at hrun
       have hone : One T E E st.mem s [] w (w.setCells g 0 (news.take (min l2.length l1.length * (T.Γ.el e').n))) := One.written hrow rfl hf hh (fun p h => by cases h) (fun p h => by cases h)
       refine wp_value (builtin_run (P := P) (w := w) (s := Builtin.copy_ c.argTypes o.type (c.args.map a.eval)) ho hcal (fun _ => rfl) (by rw [hm2, hsv, hs2]; exact hrun)) (hN _ _ _ (mem_rel hT hR ha (by simp) (hone.chg hT hR (.inr ⟨rfl, rfl, rfl, rfl, rfl⟩) ?_) (.t (.cell (.c _)))))
       have hlen : (l2.take l1.length ++ l1.drop l2.length).length = l1.length := by rw [List.length_append, List.length_take, List.length_drop]; omega
       refine .row _ e' _ g cap _ hg hf (setCells_frame _ 0 0 w vs hh).1 (by rw [hlen]; exact hs2) (by rw [hlen]; exact hcap) ⟨by rw [foldSet_size]; exact hv.1, hv.2⟩ (fun r2 hr2 j cv hj => ?_)
       have hr3 : r2 < l1.length := by rw [← hlen]; exact hr2
       have hjn : j < (T.Γ.el e').n := by
        have := (List.getElem?_eq_some_iff.mp hj).1
        rw [cellsQ_length hT.stable, hT.count] at this
        exact this
       have hk : min l2.length l1.length * (T.Γ.el e').n ≤ l2.length * (T.Γ.el e').n := Nat.mul_le_mul_right _ (Nat.min_le_left _ _)
       have htl : (news.take (min l2.length l1.length * (T.Γ.el e').n)).length = min l2.length l1.length * (T.Γ.el e').n := by rw [List.length_take]; omega
       have hr4 : (r2 + 1) * (T.Γ.el e').n ≤ l1.length * (T.Γ.el e').n := Nat.mul_le_mul_right _ (by omega)
       rw [Nat.add_mul, Nat.one_mul] at hr4
       rw [foldSet_get, htl]
       rw [cellsQ_at hT.stable, List.getElem?_map] at hj
       cases hb : (T.cells e' (l2.take l1.length ++ l1.drop l2.length)[r2])[j]? with
       | none => erw [hb] at hj; cases hj
       | some b =>
        erw [hb] at hj
        simp only [Option.map_some, Option.some.injEq] at hj
        subst hj
        have hflat := cell_flat hT hb
        by_cases hin : r2 < l2.length
        ·have hel : (l2.take l1.length ++ l1.drop l2.length)[r2] = l2[r2] := by
          rw [List.getElem_append_left (by rw [List.length_take]; omega), List.getElem_take]
         rw [hel] at hb
         obtain ⟨u, hu1, hu2⟩ := hnc r2 hin j (b.at (pvOf q2)) (by rw [cellsQ_at hT.stable, List.getElem?_map, hb]; rfl)
         have hr5 : (r2 + 1) * (T.Γ.el e').n ≤ min l2.length l1.length * (T.Γ.el e').n := Nat.mul_le_mul_right _ (by omega)
         rw [Nat.add_mul, Nat.one_mul] at hr5
         refine ⟨u, ?_, hone.wide hT hR hflat (fun h => by rw [h, Bool.or_true]) hu2⟩
         rw [if_pos (by rw [hv.1]; omega), List.getElem?_take_of_lt (by omega)]
         simpa using hu1
        ·have hel : (l2.take l1.length ++ l1.drop l2.length)[r2] = l1[r2] := by
          rw [List.getElem_append_right (by rw [List.length_take]; omega), List.getElem_drop]
          congr 1
          rw [List.length_take]
          omega
         rw [hel] at hb
         obtain ⟨u, hu1, hu2⟩ := hl r2 hr3 j (b.at (pvOf q1)) (by rw [cellsQ_at hT.stable, List.getElem?_map, hb]; rfl)
         have hr5 : min l2.length l1.length * (T.Γ.el e').n ≤ r2 * (T.Γ.el e').n := Nat.mul_le_mul_right _ (by omega)
         refine ⟨u, ?_, hone.wide hT hR hflat (fun h => by rw [h]; rfl) hu2⟩
         rw [if_neg (by omega)]
         exact hu1
     ·cases he
    ·cases he
   ·cases he
  ·cases he
 ·cases he
end
end Go.Proofs.YtbbpcbjgekencaaGreatDoor.Ev
end
section
set_option linter.unusedVariables false
set_option linter.unusedSimpArgs false
set_option linter.unusedVariables false
namespace Go.Proofs.YtbbpcbjgekencaaGreatDoor.Ev
open Go Go.RowKit
section
variable {T : Tab} {P : Program} {W : World} {O A : Nat → Prop} {E0 : Env} {E E' : Env} {B B' : Pv → Nat → Prop} {w w' : World}
inductive ConcAs (T : Tab) (E : Env) (B : Pv → Nat → Prop) (w : World) : List (AV T.Γ) → List Value → Prop
 | nil : ConcAs T E B w [] []
 | cons {x v xs vs} (h : ConcA T E B w x v) (t : ConcAs T E B w xs vs) : ConcAs T E B w (x :: xs) (v :: vs)
structure Left (T : Tab) (O A : Nat → Prop) (n : Nat) (E : Env) (w : World) (v : AV T.Γ) (m : Mem T.Γ) (E' : Env) (x : Value) (w' : World) : Prop where
 kept : Kept O w w'
 env : ∀ i, i < n → E'.ρ i = E.ρ i ∧ E'.σ i = E.σ i ∧ E'.φ i = E.φ i
 val : ConcA T E' (SB T w O A E' m w') w' v x
 mem : MemOk T E' (SB T w O A E' m w') w' m
 mine : ∀ g, Own E' m g → w.heap.size ≤ g ∨ O g
structure CallOk (T : Tab) (P : Program) (f : FuncId) (s : FnS T.Γ) : Prop where
 cps : CpsOk s.spec
 enters : ∀ (vs : Array Value) (w : World), (callFunc f vs).run P w = .ok (.enter f vs) w
 calls : ∀ (k : Nat) (xs : List (AV T.Γ)) (m m' : Mem T.Γ) (v : AV T.Γ), s.spec k xs m (AV T.Γ × Mem T.Γ) (fun v m => some (v, m)) = some (v, m') →
  ∀ (E : Env) (A : Nat → Prop) (w : World) (vals : List Value), ConcAs T E (SB T w (Own E m) A E m w) w xs vals → MemOk T E (SB T w (Own E m) A E m w) w m → GlobOk T E m w →
   Calls P f vals.toArray w fun e w' => ∃ x E', e = .returned x ∧ Left T (Own E m) A m.length E w v m' E' x w'
theorem tr_tr {Γ : Sig} (f f' : Nat → Nat) (h h' : Pv → Pv) (x : CV Γ) : (x.tr f h).tr f' h' = x.tr (f' ∘ f) (h' ∘ h) := by
 cases x <;> simp [CV.tr, Function.comp_def]
theorem lift_tr {Γ : Sig} (f : Nat → Nat) (x : CV Γ) : (x.ren f).lift = x.tr f (fun _ => .far) := by
 cases x <;> rfl
theorem tr_lift {Γ : Sig} (f : Nat → Nat) (x : CV Γ) : (x.lift).ren f = x.tr f (fun _ => .far) := by
 cases x <;> rfl
theorem liftL_map {Γ : Sig} (l : List (CV Γ)) : liftL l = l.map CV.lift := by
 induction l with
 | nil => rfl
 | cons x r ih => simp [liftL, ih]
theorem TV.tr_tr {Γ : Sig} (f f' : Nat → Nat) (h h' : Pv → Pv) (x : TV Γ) : (x.tr f h).tr f' h' = x.tr (f' ∘ f) (h' ∘ h) := by
 cases x with
 | cell x => simp [TV.tr, Ev.tr_tr]
 | agg l => simp [TV.tr, Ev.tr_tr]
theorem AV.tr_tr {Γ : Sig} (f f' : Nat → Nat) (h h' : Pv → Pv) (x : AV Γ) : (x.tr f h).tr f' h' = x.tr (f' ∘ f) (h' ∘ h) := by
 cases x with
 | t x => simp [AV.tr, TV.tr_tr]
 | tup l => simp [AV.tr, TV.tr_tr]
def Pv.putAt (s : Nat) : Pv → Pv
 | .far => .mix s
 | p => p
theorem put_tr {Γ : Sig} (s : Nat) (x : CV Γ) : x.put s = x.tr id (Pv.putAt s) := by
 cases x with
 | sl p e l => cases p <;> rfl
 | elp p e x o => cases p <;> rfl
 | _ => simp [CV.put, CV.tr]
theorem putL_map {Γ : Sig} (s : Nat) (l : List (CV Γ)) : putL s l = l.map (CV.put s) := by
 induction l with
 | nil => rfl
 | cons x r ih => simp [putL, ih]
theorem TV.put_tr {Γ : Sig} (s : Nat) (x : TV Γ) : x.put s = x.tr id (Pv.putAt s) := by
 cases x with
 | cell x => simp [TV.put, TV.tr, Ev.put_tr]
 | agg l => simp only [TV.put, TV.tr, putL_map]; congr 1; exact List.map_congr_left fun x _ => Ev.put_tr s x
theorem putT_map {Γ : Sig} (s : Nat) (l : List (TV Γ)) : putT s l = l.map (TV.put s) := by
 induction l with
 | nil => rfl
 | cons x r ih => simp [putT, ih]
theorem AV.put_tr {Γ : Sig} (s : Nat) (x : AV Γ) : x.put s = x.tr id (Pv.putAt s) := by
 cases x with
 | t x => simp [AV.put, AV.tr, TV.put_tr]
 | tup l => simp only [AV.put, AV.tr, putT_map]; congr 1; exact List.map_congr_left fun x _ => TV.put_tr s x
theorem cell_at (hT : TabOk T P) {q q' : Bool} {e : TypeId} {x : (T.Γ.el e).ty} {j : Nat} {cv : CV T.Γ} (h : (cellsQ T (pvOf q') e x)[j]? = some cv) :
  ∃ c, (cellsQ T (pvOf q) e x)[j]? = some c ∧ ((∃ v, c = .c v ∧ cv = .c v) ∨ (T.flat e = false ∧ ∃ e' l', c = .sl (pvOf q) e' l' ∧ cv = .sl (pvOf q') e' l')) := by
 rw [cellsQ_at hT.stable, List.getElem?_map] at h
 rw [cellsQ_at hT.stable, List.getElem?_map]
 cases h0 : (T.cells e x)[j]? with
 | none => rw [h0] at h; cases h
 | some c0 =>
  rw [h0] at h
  simp only [Option.map_some, Option.some.injEq] at h
  subst h
  refine ⟨_, rfl, ?_⟩
  rcases cell_flat hT h0 with ⟨v, rfl⟩ | ⟨⟨e', l', rfl⟩, hf⟩
  ·exact .inl ⟨v, rfl, rfl⟩
  ·exact .inr ⟨hf, e', l', rfl, rfl⟩
theorem BlkOk.lent (hT : TabOk T P) {f : Nat → Nat} {s s' : Nat} {b : Blk T.Γ} (hs : E'.ρ s' = E.ρ s ∧ E'.σ s' = E.σ s ∧ E'.φ s' = E.φ s) (hc : ∀ c ∈ b.cs, Tr E B w E' B' w f (fun _ => .far) c)
  (hp : ∀ p, b.pv = some p → ∀ g, B p g → B' .far g) (h : BlkOk T E B w s b) : BlkOk T E' B' w s' (liftB T (b.ren f)) := by
 cases h with
 | box t cs g vs hg hf hh h =>
  refine .box t _ g vs (hs.1.trans hg) (by rw [hs.2.2]; exact hf) hh ?_
  rw [liftL_map, renL_map, List.map_map]
  have : (CV.lift ∘ CV.ren f : CV T.Γ → CV T.Γ) = CV.tr f (fun _ => .far) := funext (lift_tr f)
  rw [this]
  exact h.tr hT.stable hc
 | row q e l g cap vs hg hf hh hsv hcap hv h =>
  refine .row _ e l g cap vs (hs.1.trans hg) (by rw [hs.2.2]; exact hf) hh (hs.2.1.trans hsv) hcap hv (fun i hi j cv hj => ?_)
  obtain ⟨c, h1, h2⟩ := cell_at hT (q := q) hj
  obtain ⟨y, hy, hz⟩ := h i hi j c h1
  refine ⟨y, hy, ?_⟩
  rcases h2 with ⟨v, rfl, rfl⟩ | ⟨hfl, e', l', rfl, rfl⟩
  ·cases hz; exact .c _
  ·have : rq T true e = true := by simp [rq, hfl]
   rw [this]
   exact hz.tr hT.stable (f := id) (h := fun _ => .far) ⟨fun s h => by simp [CV.names] at h, fun p h => by simp only [CV.pv, Option.some.injEq] at h; subst h; exact fun g hg => ⟨hp _ rfl g hg, fun o u hu => hu⟩⟩
 | nil q e hf hsv => exact .nil _ e (by rw [hs.2.2]; exact hf) (hs.2.1.trans hsv)
 | cold q e l h =>
  refine .cold true e l ?_
  rw [hs.2.1]
  exact h.tr hT.stable (f := id) (h := fun _ => .far) ⟨fun s h => by simp [CV.names] at h, fun p h => by simp only [CV.pv, Option.some.injEq] at h; subst h; exact fun g hg => ⟨hp _ rfl g hg, fun o u hu => hu⟩⟩
 | obj κ x h =>
  refine .obj κ x ?_
  rw [hs.2.1, hs.2.2]
  exact h
theorem BlkOk.back (hT : TabOk T P) {f : Nat → Nat} {s s' : Nat} {b : Blk T.Γ} (hs : E'.ρ s' = E.ρ s ∧ E'.σ s' = E.σ s ∧ E'.φ s' = E.φ s) (hc : ∀ c ∈ b.cs, Tr E B w E' B' w f (Pv.ren f) c)
  (hn : ∀ g, B .near g → B' .near g) (hp : farB T b = true → ∀ g, B .far g → B' .far g) (h : BlkOk T E B w s b) : BlkOk T E' B' w s' (b.ren f) := by
 cases h with
 | box t cs g vs hg hf hh h =>
  refine .box t _ g vs (hs.1.trans hg) (by rw [hs.2.2]; exact hf) hh ?_
  rw [renL_map, ren_tr]
  exact h.tr hT.stable hc
 | row q e l g cap vs hg hf hh hsv hcap hv h =>
  refine .row _ e l g cap vs (hs.1.trans hg) (by rw [hs.2.2]; exact hf) hh (hs.2.1.trans hsv) hcap hv (fun i hi j cv hj => ?_)
  obtain ⟨y, hy, hz⟩ := h i hi j cv hj
  refine ⟨y, hy, ?_⟩
  obtain ⟨c, _, h2⟩ := cell_at hT (q := q) hj
  rcases h2 with ⟨v, rfl, rfl⟩ | ⟨hfl, e', l', rfl, rfl⟩
  ·cases hz; exact .c _
  ·refine hz.tr hT.stable (f := id) (h := id) ⟨fun s h => by simp [CV.names] at h, fun p h => ?_⟩
   simp only [CV.pv, Option.some.injEq] at h
   subst h
   refine fun g hg => ⟨?_, fun o u hu => hu⟩
   cases q with
   | false => exact hn g hg
   | true => exact hp (by simp [farB, hfl]) g hg
 | nil q e hf hsv => exact .nil _ e (by rw [hs.2.2]; exact hf) (hs.2.1.trans hsv)
 | cold q e l h =>
  refine .cold q e l ?_
  rw [hs.2.1]
  refine h.tr hT.stable (f := id) (h := id) ⟨fun s h => by simp [CV.names] at h, fun p h => ?_⟩
  simp only [CV.pv, Option.some.injEq] at h
  subst h
  refine fun g hg => ⟨?_, fun o u hu => hu⟩
  cases q with
  | false => exact hn g hg
  | true => exact hp rfl g hg
 | obj κ x h =>
  refine .obj κ x ?_
  rw [hs.2.1, hs.2.2]
  exact h
theorem liftM_get (m : Mem T.Γ) (i : Nat) : (liftM T m).get i = (m.get i).map (liftB T) := by
 induction m with
 | nil => rfl
 | cons p r ih =>
  obtain ⟨q, b⟩ := p
  simp only [liftM, Mem.get]
  split
  ·rfl
  ·exact ih
theorem hot_lift (b : Blk T.Γ) : (liftB T b).hot = b.hot := by cases b <;> rfl
theorem ownBy_lift {m : Mem T.Γ} {i g : Nat} : OwnBy E (liftM T m) i g ↔ OwnBy E m i g := by
 constructor
 ·rintro ⟨b, hb, hh, hφ⟩
  rw [liftM_get] at hb
  cases hm : m.get i with
  | none => rw [hm] at hb; cases hb
  | some b0 =>
   rw [hm] at hb
   simp only [Option.map_some, Option.some.injEq] at hb
   subst hb
   exact ⟨b0, hm, by rwa [hot_lift] at hh, hφ⟩
 ·rintro ⟨b, hb, hh, hφ⟩
  exact ⟨liftB T b, by rw [liftM_get, hb]; rfl, by rwa [hot_lift], hφ⟩
def Hot {T : Tab} (E : Env) (m : Mem T.Γ) (hots : List Nat) (g : Nat) : Prop := ∃ s ∈ hots, OwnBy E m s g
def Seen (T : Tab) (W : World) (O A : Nat → Prop) (E : Env) (m : Mem T.Γ) (w : World) (hots : List Nat) (g : Nat) : Prop := SB T W O A E m w .far g ∨ Hot E m hots g
def lentM (T : Tab) (m : Mem T.Γ) (acc : List Nat) : Mem T.Γ := liftM T (lend m (idx acc) 0 acc)
theorem lent_own {m : Mem T.Γ} {acc : List Nat} {g : Nat} (h : Own (E.by acc) (lentM T m acc) g) : ∃ s ∈ acc, OwnBy E m s g := by
 obtain ⟨i, hi⟩ := h
 obtain ⟨s, hs, ho⟩ := lend_ownBy (ownBy_lift.mp hi)
 exact ⟨s, List.mem_of_getElem? hs, ho⟩
theorem seen_far {st : St T.Γ} {a : Act} {acc hots : List Nat} (hT : TabOk T P) (hR : Rel T W O A E0 E st a w) (hap : ∀ s ∈ hots, s ∉ acc) {g : Nat} (h : Seen T W O A E st.mem w hots g) :
  SB T w (Own (E.by acc) (lentM T st.mem acc)) (Seen T W O A E st.mem w hots) (E.by acc) (lentM T st.mem acc) w .far g := by
 refine ⟨?_, fun ho => ?_, .inr h⟩
 ·rcases h with h | ⟨s, hs, b, hb, hh, hφ⟩
  ·exact h.1
  ·exact (hR.mem.blk s b hb).inside hT hh g hφ
 ·obtain ⟨s, hs, ho⟩ := lent_own ho
  rcases h with h | ⟨s', hs', h⟩
  ·exact h.2.1 ⟨s, ho⟩
  ·have := hR.mem.apart s s' g ho h
   subst this
   exact hap s hs' hs
theorem place_seen {st : St T.Γ} {hots : List Nat} {p : Pv} (hp : ∀ s, p = .of s ∨ p = .mix s → s ∈ hots) {g : Nat} (h : SB T W O A E st.mem w p g) : Seen T W O A E st.mem w hots g := by
 cases p with
 | near => exact .inl (near_far h)
 | far => exact .inl h
 | of s =>
  rcases h.2 with h1 | h1
  ·exact .inl ⟨h.1, h1.1, .inl h1.2⟩
  ·exact .inr ⟨s, hp s (.inl rfl), h1⟩
 | mix s =>
  rcases h.2 with h1 | h1
  ·exact .inl ⟨h.1, h1.1, h1.2⟩
  ·exact .inr ⟨s, hp s (.inr rfl), h1⟩
theorem by_names {acc : List Nat} {s : Nat} (h : s ∈ acc) : (E.by acc).ρ (idx acc s) = E.ρ s ∧ (E.by acc).σ (idx acc s) = E.σ s ∧ (E.by acc).φ (idx acc s) = E.φ s := by
 have := idx_getD h
 simp only [Env.by, this, and_self]
theorem tr_lent {st : St T.Γ} {a : Act} {acc hots : List Nat} (hT : TabOk T P) (hR : Rel T W O A E0 E st a w) (hap : ∀ s ∈ hots, s ∉ acc) {x : CV T.Γ} (hn : ∀ s ∈ x.names, s ∈ acc) (hv : ∀ s ∈ x.views, s ∈ hots) :
  Tr E (SB T W O A E st.mem w) w (E.by acc) (SB T w (Own (E.by acc) (lentM T st.mem acc)) (Seen T W O A E st.mem w hots) (E.by acc) (lentM T st.mem acc) w) w (idx acc) (fun _ => .far) x :=
 ⟨fun s hs => ⟨(by_names (hn s hs)).1, (by_names (hn s hs)).2.1⟩, fun p hp g hg => ⟨seen_far hT hR hap (place_seen (fun s e => hv s (pv_views (by rw [hp]; exact e.imp (fun e => by rw [e]) (fun e => by rw [e])))) hg), fun o u hu => hu⟩⟩
theorem lentM_ok (hT : TabOk T P) {st : St T.Γ} {a : Act} {acc hots : List Nat} (hR : Rel T W O A E0 E st a w) (hap : ∀ s ∈ hots, s ∉ acc) (hd : acc.Nodup) (hcl : ∀ s ∈ acc, ∀ b, st.mem.get s = some b → ∀ t ∈ b.sites, t ∈ acc)
  (hvw : memViews (lend st.mem (idx acc) 0 acc) = []) :
  MemOk T (E.by acc) (SB T w (Own (E.by acc) (lentM T st.mem acc)) (Seen T W O A E st.mem w hots) (E.by acc) (lentM T st.mem acc) w) w (lentM T st.mem acc) := by
 refine ⟨fun i b hb => ?_, fun i j g h1 h2 => ?_⟩
 ·unfold lentM at hb
  rw [liftM_get] at hb
  cases hl : (lend st.mem (idx acc) 0 acc).get i with
  | none => rw [hl] at hb; cases hb
  | some b1 =>
   rw [hl] at hb
   simp only [Option.map_some, Option.some.injEq] at hb
   subst hb
   obtain ⟨s, b0, hs, hm, rfl⟩ := lend_some hl
   refine (hR.mem.blk s b0 hm).lent hT (by simp only [Env.by, getD_of hs, and_self]) (fun c hc => tr_lent hT hR hap (fun t ht => hcl s (List.mem_of_getElem? hs) b0 hm t (Blk.cs_sites hc (names_sites ht))) (fun t ht => ?_)) (fun p hp g hg => seen_far hT hR hap (place_seen (fun t e => ?_) hg))
   ·have h1 : idx acc t ∈ (b0.ren (idx acc)).views := by
     cases b0 with
     | box ty cs =>
      simp only [Blk.ren, Blk.views, renL_map]
      refine viewsL_mem (List.mem_map.mpr ⟨c, hc, rfl⟩) ?_
      cases c with
      | sl p e l => cases p <;> simp [CV.views, Pv.sites] at ht <;> subst ht <;> simp [CV.ren, CV.views, Pv.ren, Pv.sites]
      | elp p e x o => cases p <;> simp [CV.views, Pv.sites] at ht <;> subst ht <;> simp [CV.ren, CV.views, Pv.ren, Pv.sites]
      | _ => cases ht
     | _ => cases hc
    have := memViews_mem hl _ h1
    rw [hvw] at this
    cases this
   ·cases b0 with
    | row q e l => cases q <;> simp [Blk.pv, pvOf] at hp <;> subst hp <;> rcases e with e | e <;> cases e
    | cold q e l => cases q <;> simp [Blk.pv, pvOf] at hp <;> subst hp <;> rcases e with e | e <;> cases e
    | _ => cases hp
 ·obtain ⟨s, hs, ho⟩ := lend_ownBy (ownBy_lift.mp h1)
  obtain ⟨t, ht, ho2⟩ := lend_ownBy (ownBy_lift.mp h2)
  have := hR.mem.apart s t g ho ho2
  subst this
  exact (List.getElem_inj hd).mp ((List.getElem?_eq_some_iff.mp hs).2.trans (List.getElem?_eq_some_iff.mp ht).2.symm)
end
end Go.Proofs.YtbbpcbjgekencaaGreatDoor.Ev
end
section
set_option linter.unusedVariables false
set_option linter.unusedSimpArgs false
set_option linter.unusedVariables false
namespace Go.Proofs.YtbbpcbjgekencaaGreatDoor.Ev
open Go Go.RowKit
section
variable {T : Tab} {P : Program} {W : World} {O A : Nat → Prop} {E0 : Env} {E E' : Env} {B B' : Pv → Nat → Prop} {w w' : World}
theorem hotRows_mem (m : Mem T.Γ) : ∀ (l : List Nat) (s : Nat) q e r, s ∈ l → m.get s = some (.row q e r) → s ∈ hotRows T m l := by
 intro l
 induction l with
 | nil => intro s q e r h; cases h
 | cons x l ih =>
  intro s q e r h hm
  simp only [hotRows]
  cases h with
  | head => rw [hm]; exact List.mem_cons_self
  | tail _ h =>
   have := ih s q e r h hm
   split
   ·exact List.mem_cons_of_mem _ this
   ·exact this
theorem conc_far (hT : TabOk T P) {e : TypeId} {l : List (T.Γ.el e).ty} {p : Pv} {v : Value} (hp : ∀ g, B p g → B' .far g) (h : Conc T E B w (.sl p e l) v) : Conc T E' B' w (.sl .far e l) v :=
 h.tr hT.stable (f := id) (h := fun _ => .far) ⟨fun s h => by simp [CV.names] at h, fun p h => by simp only [CV.pv, Option.some.injEq] at h; subst h; exact fun g hg => ⟨hp g hg, fun o u hu => hu⟩⟩
theorem byValL_get {hot : Bool} {m : Mem T.Γ} (l : List (CV T.Γ)) : byValL T hot m l = l.map (byVal1 T hot m) := by
 induction l with
 | nil => rfl
 | cons x r ih => simp [byValL, ih]
theorem byValTs_get {hot : Bool} {m : Mem T.Γ} (l : List (TV T.Γ)) : byValTs T hot m l = l.map (byValT T hot m) := by
 induction l with
 | nil => rfl
 | cons x r ih => simp [byValTs, ih]
theorem sitesT_of {Γ : Sig} {l : List (TV Γ)} {x : TV Γ} (h : x ∈ l) {s : Nat} (hs : s ∈ x.sites) : s ∈ sitesT l := by
 induction l with
 | nil => cases h
 | cons y r ih =>
  simp only [sitesT, List.mem_append]
  cases h with
  | head => exact .inl hs
  | tail _ h => exact .inr (ih h)
theorem viewsT_of {Γ : Sig} {l : List (TV Γ)} {x : TV Γ} (h : x ∈ l) {s : Nat} (hs : s ∈ x.views) : s ∈ viewsT l := by
 induction l with
 | nil => cases h
 | cons y r ih =>
  simp only [viewsT, List.mem_append]
  cases h with
  | head => exact .inl hs
  | tail _ h => exact .inr (ih h)
section
variable {st : St T.Γ} {a : Act} {acc hots : List Nat} (hT : TabOk T P) (hR : Rel T W O A E0 E st a w) (hap : ∀ s ∈ hots, s ∉ acc)
include hT hR hap
theorem byVal1_conc {hot : Bool} {x : CV T.Γ} {v : Value} (hc : Conc T E (SB T W O A E st.mem w) w x v) (hn : ∀ s ∈ (byVal1 T hot st.mem x).sites, s ∈ acc) (hv : ∀ s ∈ x.views, s ∈ hots)
  (hh : hot = true → ∀ s ∈ x.sites, ∀ q e l, st.mem.get s = some (.row q e l) → s ∈ hots) :
  Conc T (E.by acc) (SB T w (Own (E.by acc) (lentM T st.mem acc)) (Seen T W O A E st.mem w hots) (E.by acc) (lentM T st.mem acc) w) w ((byVal1 T hot st.mem x).ren (idx acc)) v := by
 have gen : (∀ s ∈ x.names, s ∈ acc) → Conc T (E.by acc) (SB T w (Own (E.by acc) (lentM T st.mem acc)) (Seen T W O A E st.mem w hots) (E.by acc) (lentM T st.mem acc) w) w (x.lift.ren (idx acc)) v := by
  intro hs
  rw [tr_lift]
  exact hc.tr hT.stable (tr_lent hT hR hap hs hv)
 cases x with
 | own s =>
  have stay : byVal1 T hot st.mem (.own s) = .own s → Conc T (E.by acc) (SB T w (Own (E.by acc) (lentM T st.mem acc)) (Seen T W O A E st.mem w hots) (E.by acc) (lentM T st.mem acc) w) w ((byVal1 T hot st.mem (.own s)).ren (idx acc)) v := by
   intro e
   rw [e] at hn ⊢
   exact gen (fun t ht => hn t ht)
  have hval : v = E.σ s := by cases hc; rfl
  cases hm : st.mem.get s with
  | none => exact stay (by simp only [byVal1, hm])
  | some b =>
   cases b with
   | row q e l =>
    cases hot with
    | false => exact stay (by simp only [byVal1, hm])
    | true =>
     simp only [byVal1, hm]
     subst hval
     have hs : s ∈ hots := hh rfl s (by simp [CV.sites]) q e l hm
     have hb : BlkOk T E (fun _ g => Seen T W O A E st.mem w hots g) w s (.row q e l) := (hR.mem.blk s _ hm).stay hT ⟨rfl, rfl, rfl⟩ (fun _ _ _ => rfl) (fun c hc => by cases hc) (fun p hp g hg => ⟨place_seen (fun t e => by cases q <;> simp [Blk.pv, pvOf] at hp <;> subst hp <;> rcases e with e | e <;> cases e) hg, rfl⟩)
     have := row_sl (p := .far) hT hb (fun g hg _ => .inr ⟨s, hs, _, hm, rfl, hg⟩) (fun g h => h)
     exact conc_far hT (fun g hg => seen_far hT hR hap hg) this
   | cold q e l =>
    simp only [byVal1, hm]
    subst hval
    cases hR.mem.blk s _ hm with
    | cold q e l h => exact conc_far hT (fun g hg => seen_far hT hR hap (place_seen (fun t e => by cases q <;> rcases e with e | e <;> cases e) hg)) h
   | box t cs => exact stay (by simp only [byVal1, hm])
   | obj κ x => exact stay (by simp only [byVal1, hm])
 | c u => exact gen (fun s h => by cases h)
 | sl p e l => exact gen (fun s h => by cases h)
 | box s o => exact gen (fun t h => hn t h)
 | rowp s e i o => exact gen (fun t h => hn t h)
 | elp p e x o => exact gen (fun s h => by cases h)
 | fn f caps => exact gen (fun t h => hn t h)
theorem byValT_conc {hot : Bool} {x : TV T.Γ} {v : Value} (hc : ConcT T E (SB T W O A E st.mem w) w x v) (hn : ∀ s ∈ (byValT T hot st.mem x).sites, s ∈ acc) (hv : ∀ s ∈ x.views, s ∈ hots)
  (hh : hot = true → ∀ s ∈ x.sites, ∀ q e l, st.mem.get s = some (.row q e l) → s ∈ hots) :
  ConcT T (E.by acc) (SB T w (Own (E.by acc) (lentM T st.mem acc)) (Seen T W O A E st.mem w hots) (E.by acc) (lentM T st.mem acc) w) w ((byValT T hot st.mem x).ren (idx acc)) v := by
 cases hc with
 | cell hc => exact .cell (byVal1_conc hT hR hap hc hn hv hh)
 | @agg l vs hc =>
  refine .agg ⟨?_, fun j cv u h1 h2 => ?_⟩
  ·rw [renL_map, byValL_get, List.length_map, List.length_map]; exact hc.1
  ·rw [renL_map, byValL_get, List.getElem?_map, List.getElem?_map] at h1
   cases hq : l[j]? with
   | none => rw [hq] at h1; cases h1
   | some y =>
    rw [hq] at h1
    simp only [Option.map_some, Option.some.injEq] at h1
    subst h1
    have hy := List.mem_of_getElem? hq
    refine byVal1_conc hT hR hap (hc.2 j y u hq h2) (fun s hs => hn s ?_) (fun s hs => hv s (viewsL_mem hy hs)) (fun e s hs => hh e s (sitesL_mem hy hs))
    exact sitesL_mem (by rw [byValL_get]; exact List.mem_map.mpr ⟨y, hy, rfl⟩) hs
theorem byVal_conc {hot : Bool} {x : AV T.Γ} {v : Value} (hc : ConcA T E (SB T W O A E st.mem w) w x v) (hn : ∀ s ∈ (byVal T hot st.mem x).sites, s ∈ acc) (hv : ∀ s ∈ x.views, s ∈ hots)
  (hh : hot = true → ∀ s ∈ x.sites, ∀ q e l, st.mem.get s = some (.row q e l) → s ∈ hots) :
  ConcA T (E.by acc) (SB T w (Own (E.by acc) (lentM T st.mem acc)) (Seen T W O A E st.mem w hots) (E.by acc) (lentM T st.mem acc) w) w ((byVal T hot st.mem x).ren (idx acc)) v := by
 cases hc with
 | t hc => exact .t (byValT_conc hT hR hap hc hn hv hh)
 | @tup l vs hl hc =>
  refine .tup (by rw [renT_map, byValTs_get, List.length_map, List.length_map]; exact hl) (fun j y u h1 h2 => ?_)
  rw [renT_map, byValTs_get, List.getElem?_map, List.getElem?_map] at h1
  cases hq : l[j]? with
  | none => rw [hq] at h1; cases h1
  | some z =>
   rw [hq] at h1
   simp only [Option.map_some, Option.some.injEq] at h1
   subst h1
   have hy := List.mem_of_getElem? hq
   refine byValT_conc hT hR hap (hc j z u hq h2) (fun s hs => hn s ?_) (fun s hs => hv s (viewsT_of hy hs)) (fun e s hs => hh e s (sitesT_of hy hs))
   exact sitesT_of (by rw [byValTs_get]; exact List.mem_map.mpr ⟨z, hy, rfl⟩) hs
theorem byVals_conc (refs : List Nat) : ∀ (i : Nat) (vs : List (AV T.Γ)) (vals : List Value), ConcAs T E (SB T W O A E st.mem w) w vs vals → (∀ s ∈ sitesA (byVals T refs st.mem i vs), s ∈ acc) → (∀ s ∈ hotsOf T refs st.mem i vs, s ∈ hots) →
  ConcAs T (E.by acc) (SB T w (Own (E.by acc) (lentM T st.mem acc)) (Seen T W O A E st.mem w hots) (E.by acc) (lentM T st.mem acc) w) w (renA (idx acc) (byVals T refs st.mem i vs)) vals := by
 intro i vs
 induction vs generalizing i with
 | nil => intro vals h _ _; cases h; exact .nil
 | cons x r ih =>
  intro vals h hn hh
  cases h with
  | cons h t =>
   simp only [hotsOf] at hh
   simp only [byVals, sitesA] at hn
   refine .cons (byVal_conc hT hR hap h (fun s hs => hn s (List.mem_append_left _ hs)) (fun s hs => hh s (List.mem_append_left _ hs)) (fun e s hs q e' l hm => hh s (List.mem_append_right _ (List.mem_append_left _ ?_)))) (ih (i + 1) _ t (fun s hs => hn s (List.mem_append_right _ hs)) (fun s hs => hh s (List.mem_append_right _ (List.mem_append_right _ hs))))
   have : refs.elem i = false := by simpa using e
   rw [this]
   exact hotRows_mem _ _ s q e' l hs hm
end
theorem allHas_spec {m : Mem T.Γ} : ∀ {l : List Nat}, allHas m l = true → ∀ s ∈ l, ∃ b, m.get s = some b := by
 intro l
 induction l with
 | nil => intro _ s h; cases h
 | cons x r ih =>
  intro h s hs
  simp only [allHas] at h
  split at h
  ·rename_i hx
   cases hs with
   | head => exact Option.isSome_iff_exists.mp hx
   | tail _ hs => exact ih h s hs
  ·cases h
theorem look_append {Γ : Sig} (l r : List (Nat × Option (Blk Γ))) (s : Nat) : look (l ++ r) s = (match look l s with | some b => some b | none => look r s) := by
 induction l with
 | nil => rfl
 | cons p l ih =>
  obtain ⟨q, b⟩ := p
  simp only [List.cons_append, look]
  split
  ·rfl
  ·exact ih
theorem look_backSets (acc0 : List Nat) (base : Nat) (m : Mem T.Γ) : ∀ (acc : List Nat) (i s : Nat), look (backSets T acc0 base m i acc) s = if s ∈ acc then some ((m.get (i + idx acc s)).map (Blk.ren (back acc0 base))) else none := by
 intro acc
 induction acc with
 | nil => intro i s; simp [backSets, look]
 | cons q r ih =>
  intro i s
  simp only [backSets, look, idx]
  by_cases e : q = s
  ·subst e; simp
  ·rw [if_neg e, ih]
   have e2 : ¬ (q == s) = true := by simpa using e
   have e3 : s ∈ q :: r ↔ s ∈ r := by
    constructor
    ·intro h; cases h with
     | head => exact absurd rfl e
     | tail _ h => exact h
    ·exact List.mem_cons_of_mem _
   rw [if_neg e2]
   by_cases h : s ∈ r
   ·rw [if_pos h, if_pos (e3.mpr h), show i + 1 + idx r s = i + (idx r s + 1) by omega]
   ·rw [if_neg h, if_neg (fun h' => h (e3.mp h'))]
theorem blt_true {a b : Nat} : a.blt b = true ↔ a < b := by simp [Nat.blt]; omega
theorem look_backNews (acc : List Nat) (base : Nat) : ∀ (m : Mem T.Γ) (s : Nat), look (backNews T acc base m) s = if base ≤ s then (m.get (acc.length + (s - base))).map (fun b => some (b.ren (back acc base))) else none := by
 intro m
 induction m with
 | nil => intro s; simp [backNews, look, Mem.get]
 | cons p r ih =>
  obtain ⟨i, b⟩ := p
  intro s
  simp only [backNews]
  cases hi : i.blt acc.length with
  | true =>
   have hlt := blt_true.mp hi
   rw [ih]
   by_cases h : base ≤ s
   ·rw [if_pos h, if_pos h]
    simp only [Mem.get]
    rw [if_neg (by simp; omega)]
   ·rw [if_neg h, if_neg h]
  | false =>
   have hge : acc.length ≤ i := by
    have : ¬ i < acc.length := fun h => by rw [blt_true.mpr h] at hi; cases hi
    omega
   simp only [look, Mem.get]
   by_cases e : base + (i - acc.length) = s
   ·subst e
    rw [if_pos rfl, if_pos (by omega), if_pos (by simp; omega)]
    rfl
   ·rw [if_neg e, ih]
    by_cases h : base ≤ s
    ·rw [if_pos h, if_pos h, if_neg (by simp; omega)]
    ·rw [if_neg h, if_neg h]
theorem backNews_mem (acc : List Nat) (base : Nat) (m : Mem T.Γ) (s : Nat) : s ∈ (backNews T acc base m).map (·.1) ↔ base ≤ s ∧ ∃ b, m.get (acc.length + (s - base)) = some b := by
 constructor
 ·intro h
  obtain ⟨⟨q, b⟩, hp, rfl⟩ := List.mem_map.mp h
  have := look_some hp
  rw [look_backNews] at this
  split at this
  ·rename_i hb
   refine ⟨hb, ?_⟩
   cases hm : m.get (acc.length + (q - base)) with
   | none => simp [hm] at this
   | some b => exact ⟨b, rfl⟩
  ·cases this
 ·rintro ⟨hb, b, hm⟩
  have : look (backNews T acc base m) s = some (some (b.ren (back acc base))) := by rw [look_backNews, if_pos hb, hm]; rfl
  exact List.mem_map.mpr ⟨_, look_mem this, rfl⟩
theorem sitesM_mem {Γ : Sig} {m : Mem Γ} {i : Nat} {b : Blk Γ} (h : m.get i = some b) : ∀ t ∈ b.sites, t ∈ sitesM m := by
 induction m with
 | nil => cases h
 | cons p r ih =>
  obtain ⟨q, x⟩ := p
  intro t ht
  simp only [sitesM, List.mem_append]
  simp only [Mem.get] at h
  split at h
  ·cases h; exact .inl ht
  ·exact .inr (ih h t ht)
theorem farM_mem {m : Mem T.Γ} {i : Nat} {b : Blk T.Γ} (h : m.get i = some b) (hb : farB T b = true) : farM T m = true := by
 induction m with
 | nil => cases h
 | cons p r ih =>
  obtain ⟨q, x⟩ := p
  simp only [farM, Bool.or_eq_true]
  simp only [Mem.get] at h
  split at h
  ·cases h; exact .inl hb
  ·exact .inr (ih h)
theorem far_of {Γ : Sig} {c : CV Γ} (h : c.far = false) : c.pv = none ∨ c.pv = some .near := by
 cases c with
 | sl p e l => cases p <;> first | exact .inr rfl | cases h
 | elp p e x o => cases p <;> first | exact .inr rfl | cases h
 | _ => exact .inl rfl
theorem TV.far_mem {Γ : Sig} {x : TV Γ} {c : CV Γ} (h : c ∈ x.cs) (hf : x.far = false) : c.far = false := by
 cases x with
 | cell y => simp [TV.cs] at h; subst h; exact hf
 | agg l =>
  have h : c ∈ l := h
  have hf : farL l = false := hf
  induction l with
  | nil => cases h
  | cons y r ih =>
   simp only [farL, Bool.or_eq_false_iff] at hf
   cases h with
   | head => exact hf.1
   | tail _ h => exact ih h hf.2 h hf.2
theorem AV.far_mem {Γ : Sig} {x : AV Γ} {c : CV Γ} (h : c ∈ x.cs) (hf : x.far = false) : c.far = false := by
 cases x with
 | t y => exact TV.far_mem h hf
 | tup l =>
  have h : c ∈ csT l := h
  have hf : farT l = false := hf
  induction l with
  | nil => cases h
  | cons y r ih =>
   simp only [farT, Bool.or_eq_false_iff] at hf
   simp only [csT, List.mem_append] at h
   rcases h with h | h
   ·exact TV.far_mem h hf.1
   ·exact ih h hf.2 h hf.2
theorem ren_far {Γ : Sig} (f : Nat → Nat) (c : CV Γ) : (c.ren f).far = c.far := by
 cases c with
 | sl p e l => cases p <;> rfl
 | elp p e x o => cases p <;> rfl
 | _ => rfl
theorem TV.ren_far {Γ : Sig} (f : Nat → Nat) (x : TV Γ) : (x.ren f).far = x.far := by
 cases x with
 | cell y => exact Ev.ren_far f y
 | agg l =>
  show farL (renL f l) = farL l
  induction l with
  | nil => rfl
  | cons y r ih => simp only [renL, farL, ih, Ev.ren_far]
theorem AV.ren_far {Γ : Sig} (f : Nat → Nat) (x : AV Γ) : (x.ren f).far = x.far := by
 cases x with
 | t y => exact TV.ren_far f y
 | tup l =>
  show farT (renT f l) = farT l
  induction l with
  | nil => rfl
  | cons y r ih => simp only [renT, farT, ih, TV.ren_far]
theorem TV.mixed_mem {Γ : Sig} {x : TV Γ} {c : CV Γ} (h : c ∈ x.cs) (hf : x.mixed = false) : c.mixed = false := by
 cases x with
 | cell y => simp [TV.cs] at h; subst h; exact hf
 | agg l =>
  have h : c ∈ l := h
  have hf : mixedL l = false := hf
  induction l with
  | nil => cases h
  | cons y r ih =>
   simp only [mixedL, Bool.or_eq_false_iff] at hf
   cases h with
   | head => exact hf.1
   | tail _ h => exact ih h hf.2 h hf.2
theorem AV.mixed_mem {Γ : Sig} {x : AV Γ} {c : CV Γ} (h : c ∈ x.cs) (hf : x.mixed = false) : c.mixed = false := by
 cases x with
 | t y => exact TV.mixed_mem h hf
 | tup l =>
  have h : c ∈ csT l := h
  have hf : mixedT l = false := hf
  induction l with
  | nil => cases h
  | cons y r ih =>
   simp only [mixedT, Bool.or_eq_false_iff] at hf
   simp only [csT, List.mem_append] at h
   rcases h with h | h
   ·exact TV.mixed_mem h hf.1
   ·exact ih h hf.2 h hf.2
theorem ren_mixed {Γ : Sig} (f : Nat → Nat) (c : CV Γ) : (c.ren f).mixed = c.mixed := by
 cases c with
 | sl p e l => cases p <;> rfl
 | elp p e x o => cases p <;> rfl
 | _ => rfl
theorem TV.ren_mixed {Γ : Sig} (f : Nat → Nat) (x : TV Γ) : (x.ren f).mixed = x.mixed := by
 cases x with
 | cell y => exact Ev.ren_mixed f y
 | agg l =>
  show mixedL (renL f l) = mixedL l
  induction l with
  | nil => rfl
  | cons y r ih => simp only [renL, mixedL, ih, Ev.ren_mixed]
theorem AV.ren_mixed {Γ : Sig} (f : Nat → Nat) (x : AV Γ) : (x.ren f).mixed = x.mixed := by
 cases x with
 | t y => exact TV.ren_mixed f y
 | tup l =>
  show mixedT (renT f l) = mixedT l
  induction l with
  | nil => rfl
  | cons y r ih => simp only [renT, mixedT, ih, TV.ren_mixed]
end
end Go.Proofs.YtbbpcbjgekencaaGreatDoor.Ev
end
section
set_option linter.unusedVariables false
set_option linter.unusedSimpArgs false
set_option linter.unusedVariables false
namespace Go.Proofs.YtbbpcbjgekencaaGreatDoor.Ev
open Go Go.RowKit
def Env.after (E E' : Env) (news : List Nat) (len base : Nat) : Env :=
 ⟨fun s => if s ∈ news then E'.ρ (len + (s - base)) else E.ρ s, fun s => if s ∈ news then E'.σ (len + (s - base)) else E.σ s, fun s => if s ∈ news then E'.φ (len + (s - base)) else E.φ s, 0⟩
theorem Env.after_old {E E' : Env} {news : List Nat} {len base s : Nat} (h : s ∉ news) : (E.after E' news len base).ρ s = E.ρ s ∧ (E.after E' news len base).σ s = E.σ s ∧ (E.after E' news len base).φ s = E.φ s := by
 simp [Env.after, h]
theorem Env.after_new {E E' : Env} {news : List Nat} {len base s : Nat} (h : s ∈ news) : (E.after E' news len base).ρ s = E'.ρ (len + (s - base)) ∧ (E.after E' news len base).σ s = E'.σ (len + (s - base)) ∧ (E.after E' news len base).φ s = E'.φ (len + (s - base)) := by
 simp [Env.after, h]
theorem idx_getElem {acc : List Nat} (hd : acc.Nodup) {i s : Nat} (h : acc[i]? = some s) : idx acc s = i := by
 have h2 := idx_at acc s (List.mem_of_getElem? h)
 exact (List.getElem_inj hd).mp ((List.getElem?_eq_some_iff.mp h2).2.trans (List.getElem?_eq_some_iff.mp h).2.symm)
section
variable {T : Tab} {P : Program} {W : World} {O A : Nat → Prop} {E0 : Env} {E E' : Env} {w w' : World}
structure Ended (T : Tab) (W : World) (O A : Nat → Prop) (E0 E E' : Env) (st : St T.Γ) (a : Act) (acc hots : List Nat) (base : Nat) (v : AV T.Γ) (m' : Mem T.Γ) (x : Value) (w w' : World) : Prop where
 rel : Rel T W O A E0 E st a w
 nodup : acc.Nodup
 has : ∀ s ∈ acc, ∃ b, st.mem.get s = some b
 apart : ∀ s ∈ hots, s ∉ acc
 known : ∀ i ∈ v.sites ++ sitesM m', i < acc.length ∨ ∃ b, m'.get i = some b
 free : ∀ s ∈ (backNews T acc base m').map (·.1), st.mem.get s = none
 left : Left T (Own (E.by acc) (lentM T st.mem acc)) (Seen T W O A E st.mem w hots) acc.length (E.by acc) w v m' E' x w'
 far : hots = [] ∨ farM T m' = false
variable {st : St T.Γ} {a : Act} {acc hots : List Nat} {base : Nat} {v : AV T.Γ} {m' : Mem T.Γ} {x : Value}
def callMC (T : Tab) (acc : List Nat) (base : Nat) (m' : Mem T.Γ) : MC T.Γ := ⟨backSets T acc base m' 0 acc ++ backNews T acc base m', (backNews T acc base m').map (·.1), acc⟩
def envB (T : Tab) (E E' : Env) (acc : List Nat) (base : Nat) (m' : Mem T.Γ) : Env := E.after E' ((backNews T acc base m').map (·.1)) acc.length base
theorem look_call (acc : List Nat) (base : Nat) (m' : Mem T.Γ) (s : Nat) : look (callMC T acc base m').sets s = if s ∈ acc then some ((m'.get (idx acc s)).map (Blk.ren (back acc base))) else if base ≤ s then (m'.get (acc.length + (s - base))).map (fun b => some (b.ren (back acc base))) else none := by
 simp only [callMC]
 rw [look_append, look_backSets, look_backNews, Nat.zero_add]
 by_cases h : s ∈ acc
 ·rw [if_pos h, if_pos h]
 ·rw [if_neg h, if_neg h]
theorem back_lt {i s : Nat} (h : acc[i]? = some s) : back acc base i = s := by
 have hlt := (List.getElem?_eq_some_iff.mp h).1
 simp only [back, blt_true.mpr hlt]
 exact getD_of h
theorem back_ge {i : Nat} (h : acc.length ≤ i) : back acc base i = base + (i - acc.length) := by
 have : i.blt acc.length = false := by
  cases hb : i.blt acc.length with
  | false => rfl
  | true => have := blt_true.mp hb; omega
 simp only [back, this]
section
variable (h : Ended T W O A E0 E E' st a acc hots base v m' x w w')
include h
theorem Ended.old {s : Nat} (hs : s ∈ acc) : s ∉ (backNews T acc base m').map (·.1) := fun hn => by
 obtain ⟨b, hb⟩ := h.has s hs
 rw [h.free s hn] at hb
 cases hb
theorem Ended.env {i : Nat} (hi : i < acc.length ∨ ∃ b, m'.get i = some b) :
  (envB T E E' acc base m').ρ (back acc base i) = E'.ρ i ∧ (envB T E E' acc base m').σ (back acc base i) = E'.σ i ∧ (envB T E E' acc base m').φ (back acc base i) = E'.φ i := by
 by_cases hlt : i < acc.length
 ·have hs : acc[i]? = some acc[i] := List.getElem?_eq_getElem hlt
  rw [back_lt hs]
  obtain ⟨h1, h2, h3⟩ := h.left.env i hlt
  obtain ⟨e1, e2, e3⟩ := Env.after_old (E := E) (E' := E') (len := acc.length) (base := base) (h.old (List.getElem_mem hlt))
  have : ∀ {β : Type} (g : Nat → β), g (acc.getD i 0) = g acc[i] := fun g => by rw [getD_of hs]
  exact ⟨e1.trans ((this E.ρ).symm.trans h1.symm), e2.trans ((this E.σ).symm.trans h2.symm), e3.trans ((this E.φ).symm.trans h3.symm)⟩
 ·obtain ⟨b, hb⟩ := hi.resolve_left hlt
  rw [back_ge (by omega)]
  have hn : base + (i - acc.length) ∈ (backNews T acc base m').map (·.1) := (backNews_mem acc base m' _).mpr ⟨by omega, b, by rw [show acc.length + (base + (i - acc.length) - base) = i by omega]; exact hb⟩
  have := Env.after_new (E := E) (E' := E') (len := acc.length) (base := base) hn
  rwa [show acc.length + (base + (i - acc.length) - base) = i by omega] at this
theorem Ended.ownBack {s g : Nat} (hs : (look (callMC T acc base m').sets s).isSome = true) (ho : OwnBy (envB T E E' acc base m') (st.mem.sets (callMC T acc base m').sets) s g) : ∃ i, OwnBy E' m' i g ∧ back acc base i = s := by
 obtain ⟨b, hb, hh, hφ⟩ := ho
 rw [get_sets] at hb
 rw [look_call] at hb hs
 by_cases hm : s ∈ acc
 ·rw [if_pos hm] at hb
  simp only at hb
  cases hg : m'.get (idx acc s) with
  | none => rw [hg] at hb; cases hb
  | some b0 =>
   rw [hg] at hb
   simp only [Option.map_some, Option.some.injEq] at hb
   subst hb
   rw [hot_ren] at hh
   have hbk := back_lt (base := base) (idx_at acc s hm)
   have := (h.env (.inr ⟨b0, hg⟩)).2.2
   rw [hbk] at this
   rw [this] at hφ
   exact ⟨_, ⟨b0, hg, hh, hφ⟩, hbk⟩
 ·rw [if_neg hm] at hb hs
  by_cases hle : base ≤ s
  ·rw [if_pos hle] at hb hs
   cases hg : m'.get (acc.length + (s - base)) with
   | none => rw [hg] at hs; cases hs
   | some b0 =>
    rw [hg] at hb
    simp only [Option.map_some, Option.some.injEq] at hb
    subst hb
    rw [hot_ren] at hh
    have hbk : back acc base (acc.length + (s - base)) = s := by rw [back_ge (by omega)]; omega
    have := (h.env (.inr ⟨b0, hg⟩)).2.2
    rw [hbk] at this
    rw [this] at hφ
    exact ⟨_, ⟨b0, hg, hh, hφ⟩, hbk⟩
  ·rw [if_neg hle] at hs
   cases hs
theorem Ended.backOwn {i g : Nat} (ho : OwnBy E' m' i g) : OwnBy (envB T E E' acc base m') (st.mem.sets (callMC T acc base m').sets) (back acc base i) g := by
 obtain ⟨b, hb, hh, hφ⟩ := ho
 refine ⟨b.ren (back acc base), ?_, by rw [hot_ren]; exact hh, by rw [(h.env (.inr ⟨b, hb⟩)).2.2]; exact hφ⟩
 rw [get_sets, look_call]
 by_cases hlt : i < acc.length
 ·have hs : acc[i]? = some acc[i] := List.getElem?_eq_getElem hlt
  rw [back_lt hs, if_pos (List.getElem_mem hlt), idx_getElem h.nodup hs, hb]
  rfl
 ·rw [back_ge (by omega)]
  have hn : base + (i - acc.length) ∈ (backNews T acc base m').map (·.1) := (backNews_mem acc base m' _).mpr ⟨by omega, b, by rw [show acc.length + (base + (i - acc.length) - base) = i by omega]; exact hb⟩
  rw [if_neg (fun hm => h.old hm hn), if_pos (by omega), show acc.length + (base + (i - acc.length) - base) = i by omega, hb]
  rfl
theorem Ended.other {s g : Nat} (hs : look (callMC T acc base m').sets s = none) : OwnBy (envB T E E' acc base m') (st.mem.sets (callMC T acc base m').sets) s g ↔ OwnBy E st.mem s g := by
 have hn : s ∉ (backNews T acc base m').map (·.1) := fun hn => by
  obtain ⟨h1, b, hb⟩ := (backNews_mem acc base m' s).mp hn
  rw [look_call, if_neg (fun hm => h.old hm hn), if_pos h1, hb] at hs
  cases hs
 have e := (Env.after_old (E := E) (E' := E') (len := acc.length) (base := base) hn).2.2
 constructor
 ·rintro ⟨b, hb, hh, hφ⟩
  rw [get_sets, hs] at hb
  exact ⟨b, hb, hh, by rw [← e]; exact hφ⟩
 ·rintro ⟨b, hb, hh, hφ⟩
  exact ⟨b, by rw [get_sets, hs]; exact hb, hh, by rw [envB, e]; exact hφ⟩
omit h in
theorem inAcc {s : Nat} (hs : s ∈ acc) : (look (callMC T acc base m').sets s).isSome = true := by
 rw [look_call, if_pos hs]; rfl
theorem Ended.noOwn (hT : TabOk T P) {g : Nat} (hn : ¬ Own E' m' g) (hg : (w.heap.size ≤ g ∨ Own (E.by acc) (lentM T st.mem acc) g) ∨ ¬ Own E st.mem g) : ¬ Own (envB T E E' acc base m') (st.mem.sets (callMC T acc base m').sets) g := by
 rintro ⟨s, ho⟩
 cases hl : look (callMC T acc base m').sets s with
 | some b =>
  obtain ⟨i, hi, _⟩ := h.ownBack (by rw [hl]; rfl) ho
  exact hn ⟨i, hi⟩
 | none =>
  have ho := (h.other hl).mp ho
  rcases hg with (hg | hg) | hg
  ·obtain ⟨b, hb, hh, hφ⟩ := ho
   have := (h.rel.mem.blk s b hb).inside hT hh g hφ
   omega
  ·obtain ⟨s', hs', ho'⟩ := lent_own hg
   have := h.rel.mem.apart s s' g ho ho'
   subst this
   have := inAcc (T := T) (base := base) (m' := m') hs'
   rw [hl] at this
   cases this
  ·exact hg ⟨s, ho⟩
theorem Ended.mineW {g : Nat} (hg : w.heap.size ≤ g ∨ Own (E.by acc) (lentM T st.mem acc) g) : W.heap.size ≤ g ∨ O g := by
 rcases hg with hg | hg
 ·exact .inl (Nat.le_trans h.rel.kept.size hg)
 ·obtain ⟨s, _, ho⟩ := lent_own hg
  exact h.rel.mine g ⟨s, ho⟩
theorem Ended.near (hT : TabOk T P) {g : Nat} (hg : SB T w (Own (E.by acc) (lentM T st.mem acc)) (Seen T W O A E st.mem w hots) E' m' w' .near g) : SB T W O A (envB T E E' acc base m') (st.mem.sets (callMC T acc base m').sets) w' .near g :=
 ⟨hg.1, h.noOwn hT hg.2.1 (.inl hg.2.2), h.mineW hg.2.2⟩
theorem Ended.farOr (hT : TabOk T P) {g : Nat} (hn : ¬ Own E' m' g) (hlt : g < w'.heap.size) (hg : (w.heap.size ≤ g ∨ Own (E.by acc) (lentM T st.mem acc) g) ∨ Seen T W O A E st.mem w hots g) :
  SB T W O A (envB T E E' acc base m') (st.mem.sets (callMC T acc base m').sets) w' .far g ∨ ∃ s ∈ hots, OwnBy (envB T E E' acc base m') (st.mem.sets (callMC T acc base m').sets) s g := by
 rcases hg with hg | hg | ⟨s, hs, ho⟩
 ·exact .inl ⟨hlt, h.noOwn hT hn (.inl hg), .inl (h.mineW hg)⟩
 ·exact .inl ⟨hlt, h.noOwn hT hn (.inr hg.2.1), hg.2.2⟩
 ·refine .inr ⟨s, hs, (h.other ?_).mpr ho⟩
  cases hl : look (callMC T acc base m').sets s with
  | none => rfl
  | some b =>
   exfalso
   have hk := hl
   rw [look_call, if_neg (h.apart s hs)] at hk
   split at hk
   ·rename_i hle
    cases hm : m'.get (acc.length + (s - base)) with
    | none => rw [hm] at hk; cases hk
    | some b1 =>
     obtain ⟨b0, hb0, _⟩ := ho
     rw [h.free s ((backNews_mem acc base m' s).mpr ⟨hle, b1, hm⟩)] at hb0
     cases hb0
   ·cases hk
theorem Ended.tr (hT : TabOk T P) {c : CV T.Γ} (hk : ∀ s ∈ c.sites, s < acc.length ∨ ∃ b, m'.get s = some b) {hp : Pv → Pv}
  (hh : (hp = Pv.ren (back acc base) ∧ (hots = [] ∨ c.far = false)) ∨ (c.mixed = false ∧ ∃ s, hp = Pv.putAt s ∘ Pv.ren (back acc base) ∧ ∀ t ∈ hots, t = s)) :
  Tr E' (SB T w (Own (E.by acc) (lentM T st.mem acc)) (Seen T W O A E st.mem w hots) E' m' w') w' (envB T E E' acc base m') (SB T W O A (envB T E E' acc base m') (st.mem.sets (callMC T acc base m').sets) w') w' (back acc base) hp c := by
 refine ⟨fun s hs => ⟨(h.env (hk s (names_sites hs))).1, (h.env (hk s (names_sites hs))).2.1⟩, fun p hpv g hg => ⟨?_, fun o u hu => hu⟩⟩
 have nofar : ∀ {r : Prop}, (hots = [] ∨ c.far = false) → p ≠ .near → (SB T W O A (envB T E E' acc base m') (st.mem.sets (callMC T acc base m').sets) w' .far g ∨ ∃ s ∈ hots, OwnBy (envB T E E' acc base m') (st.mem.sets (callMC T acc base m').sets) s g) → (SB T W O A (envB T E E' acc base m') (st.mem.sets (callMC T acc base m').sets) w' .far g → r) → r := by
  intro r h1 h2 h3 h4
  rcases h1 with h1 | h1
  ·rcases h3 with h3 | ⟨s, hs, _⟩
   ·exact h4 h3
   ·rw [h1] at hs; cases hs
  ·rcases far_of h1 with h5 | h5
   ·rw [h5] at hpv; cases hpv
   ·rw [h5] at hpv; exact absurd (Option.some.inj hpv).symm h2
 cases p with
 | near =>
  have := h.near hT hg
  rcases hh with ⟨rfl, _⟩ | ⟨_, s, rfl, _⟩ <;> exact this
 | far =>
  have := h.farOr hT hg.2.1 hg.1 hg.2.2
  rcases hh with ⟨rfl, h1⟩ | ⟨hmx, s, rfl, h1⟩
  ·exact nofar h1 (by simp) this id
  ·show SB T W O A _ _ w' (.mix s) g
   rcases this with h2 | ⟨t, ht, h2⟩
   ·exact far_mix h2
   ·rw [h1 t ht] at h2; exact ⟨hg.1, .inr h2⟩
 | of i =>
  have : SB T W O A (envB T E E' acc base m') (st.mem.sets (callMC T acc base m').sets) w' (.of (back acc base i)) g := by
   refine ⟨hg.1, ?_⟩
   rcases hg.2 with h1 | h1
   ·exact .inl ⟨h.noOwn hT h1.1 (.inl h1.2), h.mineW h1.2⟩
   ·exact .inr (h.backOwn h1)
  rcases hh with ⟨rfl, _⟩ | ⟨_, s, rfl, _⟩ <;> exact this
 | mix i =>
  have key : (SB T W O A (envB T E E' acc base m') (st.mem.sets (callMC T acc base m').sets) w' .far g ∨ ∃ s ∈ hots, OwnBy (envB T E E' acc base m') (st.mem.sets (callMC T acc base m').sets) s g) ∨ OwnBy (envB T E E' acc base m') (st.mem.sets (callMC T acc base m').sets) (back acc base i) g := by
   rcases hg.2 with h1 | h1
   ·exact .inl (h.farOr hT h1.1 hg.1 h1.2)
   ·exact .inr (h.backOwn h1)
  rcases hh with ⟨rfl, h1⟩ | ⟨hmx, s, rfl, h1⟩
  ·show SB T W O A _ _ w' (.mix (back acc base i)) g
   rcases key with h2 | h2
   ·exact nofar h1 (by simp) h2 (fun h => far_mix h)
   ·exact ⟨hg.1, .inr h2⟩
  ·exfalso
   cases c with
   | sl p e l => simp only [CV.pv, Option.some.injEq] at hpv; subst hpv; cases hmx
   | elp p e x o => simp only [CV.pv, Option.some.injEq] at hpv; subst hpv; cases hmx
   | _ => cases hpv
theorem Ended.chg (hT : TabOk T P) : Chg T W O A E (envB T E E' acc base m') st.mem w w' (callMC T acc base m') := by
 have blkOf : ∀ i b, m'.get i = some b → ∀ s, back acc base i = s → BlkOk T (envB T E E' acc base m') (SB T W O A (envB T E E' acc base m') (st.mem.sets (callMC T acc base m').sets) w') w' s (b.ren (back acc base)) := by
  intro i b hb s hs
  subst hs
  have hf : hots = [] ∨ farB T b = false := h.far.imp_right (fun hf => by
   cases hq : farB T b with
   | false => rfl
   | true => rw [farM_mem hb hq] at hf; cases hf)
  refine (h.left.mem.blk i b hb).back hT (h.env (.inr ⟨b, hb⟩)) (fun c hc => h.tr hT (fun s hs => h.known s (List.mem_append_right _ (sitesM_mem hb s (Blk.cs_sites hc hs)))) (.inl ⟨rfl, hf.imp_right (fun hf => ?_)⟩)) (fun g hg => h.near hT hg) (fun hq g hg => ?_)
  ·cases b with
   | box t cs =>
    cases hq : c.far with
    | false => rfl
    | true => exact absurd (hf.symm.trans (farL_mem (l := cs) hc hq)) (by simp)
   | _ => cases hc
  ·rcases hf with hf | hf
   ·rcases h.farOr hT hg.2.1 hg.1 hg.2.2 with h1 | ⟨s, hs, _⟩
    ·exact h1
    ·rw [hf] at hs; cases hs
   ·rw [hf] at hq; cases hq
 refine ⟨fun s hs => ?_, fun s hs => inAcc hs, fun s hs => Env.after_old hs, h.left.kept.os, h.left.kept.tape, h.left.kept.output, h.left.kept.size, fun g hg hn => h.left.kept.block g hg (fun ho => ?_), fun s b hl => ?_, fun s g hs ho => ?_, fun s s' g hs hs' h1 h2 => ?_, fun s hs => ?_⟩
 ·obtain ⟨h1, b, hb⟩ := (backNews_mem acc base m' s).mp hs
  rw [look_call, if_neg (fun hm => h.old hm hs), if_pos h1, hb]; rfl
 ·obtain ⟨s, hs, ho⟩ := lent_own ho
  exact hn s hs ho
 ·rw [look_call] at hl
  by_cases hm : s ∈ acc
  ·rw [if_pos hm] at hl
   simp only [Option.some.injEq] at hl
   cases hg : m'.get (idx acc s) with
   | none => rw [hg] at hl; cases hl
   | some b0 =>
    rw [hg] at hl
    simp only [Option.map_some, Option.some.injEq] at hl
    subst hl
    exact blkOf _ b0 hg s (back_lt (idx_at acc s hm))
  ·rw [if_neg hm] at hl
   split at hl
   ·rename_i hle
    cases hg : m'.get (acc.length + (s - base)) with
    | none => rw [hg] at hl; cases hl
    | some b0 =>
     rw [hg] at hl
     simp only [Option.map_some, Option.some.injEq] at hl
     subst hl
     exact blkOf _ b0 hg s (by rw [back_ge (by omega)]; omega)
   ·cases hl
 ·obtain ⟨i, hi, _⟩ := h.ownBack hs ho
  rcases h.left.mine g ⟨i, hi⟩ with h1 | h1
  ·exact .inl h1
  ·obtain ⟨s0, hs0, ho0⟩ := lent_own h1
   exact .inr ⟨s0, inAcc hs0, ho0⟩
 ·obtain ⟨i, hi, e1⟩ := h.ownBack hs h1
  obtain ⟨j, hj, e2⟩ := h.ownBack hs' h2
  have := h.left.mem.apart i j g hi hj
  subst this
  exact e1.symm.trans e2
 ·by_cases hm : s ∈ acc
  ·exact .inl hm
  ·refine .inr (.inl ?_)
   rw [look_call, if_neg hm] at hs
   split at hs
   ·rename_i hle
    cases hg : m'.get (acc.length + (s - base)) with
    | none => rw [hg] at hs; cases hs
    | some b0 => exact (backNews_mem acc base m' s).mpr ⟨hle, b0, hg⟩
   ·cases hs
theorem Ended.val (hT : TabOk T P) {v2 : AV T.Γ} (hp : putHot T hots (v.ren (back acc base)) m' = some v2) : ConcA T (envB T E E' acc base m') (SB T W O A (envB T E E' acc base m') (st.mem.sets (callMC T acc base m').sets) w') w' v2 x := by
 have hkn : ∀ c ∈ v.cs, ∀ s ∈ c.sites, s < acc.length ∨ ∃ b, m'.get s = some b := fun c hc s hs => h.known s (List.mem_append_left _ (AV.sites_mem hc hs))
 have plain : (hots = [] ∨ v.far = false) → ConcA T (envB T E E' acc base m') (SB T W O A (envB T E E' acc base m') (st.mem.sets (callMC T acc base m').sets) w') w' (v.ren (back acc base)) x := by
  intro hf
  rw [AV.ren_tr]
  exact h.left.val.tr hT.stable (fun c hc => h.tr hT (hkn c hc) (.inl ⟨rfl, hf.imp_right (AV.far_mem hc)⟩))
 unfold putHot at hp
 split at hp
 ·simp only [Option.some.injEq] at hp
  subst hp
  exact plain (.inl rfl)
 ·rename_i s r
  split at hp
  ·rename_i hf
   simp only [Option.some.injEq] at hp
   subst hp
   simp only [Bool.or_eq_false_iff, AV.ren_far] at hf
   exact plain (.inr hf.1)
  ·split at hp
   ·rename_i hc
    simp only [Option.some.injEq] at hp
    subst hp
    simp only [Bool.and_eq_true, Bool.not_eq_true', Bool.or_eq_false_iff, List.all_eq_true] at hc
    rw [AV.put_tr, AV.ren_tr, AV.tr_tr]
    refine h.left.val.tr hT.stable (fun c hcs => h.tr hT (hkn c hcs) (.inr ⟨AV.mixed_mem hcs (by rw [← AV.ren_mixed (back acc base)]; exact hc.2.2), s, rfl, fun t ht => ?_⟩))
    cases ht with
    | head => rfl
    | tail _ ht => simpa using hc.1 t ht
   ·cases hp
end
end
end Go.Proofs.YtbbpcbjgekencaaGreatDoor.Ev
end
section
set_option linter.unusedVariables false
set_option linter.unusedSimpArgs false
set_option linter.unusedVariables false
namespace Go.Proofs.YtbbpcbjgekencaaGreatDoor.Ev
open Go Go.RowKit
section
variable {T : Tab} {P : Program} {W : World} {O A : Nat → Prop} {E0 : Env} {E E' : Env} {w w' : World}
theorem allVals_conc {st : St T.Γ} {a : Act} (hR : Rel T W O A E0 E st a w) : ∀ (xs : List Operand) (vs : List (AV T.Γ)), allVals st.eval xs = some vs → ConcAs T E (SB T W O A E st.mem w) w vs (xs.map a.eval) := by
 intro xs
 induction xs with
 | nil => intro vs h; simp only [allVals, Option.some.injEq] at h; subst h; exact .nil
 | cons x r ih =>
  intro vs h
  simp only [allVals] at h
  split at h
  ·rename_i v hv
   cases hq : allVals st.eval r with
   | none => rw [hq] at h; cases h
   | some l =>
    rw [hq] at h
    simp only [Option.map_some, Option.some.injEq] at h
    subst h
    exact .cons (eval_conc hR hv) (ih l hq)
  ·cases h
theorem ConcAs.append {B : Pv → Nat → Prop} {xs ys : List (AV T.Γ)} {vs us : List Value} (h : ConcAs T E B w xs vs) (k : ConcAs T E B w ys us) : ConcAs T E B w (xs ++ ys) (vs ++ us) := by
 induction h with
 | nil => exact k
 | cons h _ ih => exact .cons h ih
theorem caps_conc {B : Pv → Nat → Prop} : ∀ (caps : List (Nat × Nat)) (vs : List Value), vs.length = caps.length → (∀ (j s o : Nat), caps[j]? = some (s, o) → ∃ g, E.ρ s = some g ∧ vs[j]? = some (.pointer (some ⟨g, o, none⟩))) →
  ConcAs T E B w (caps.map fun p => .t (.cell (.box p.1 p.2))) vs := by
 intro caps
 induction caps with
 | nil => intro vs h _; rw [List.eq_nil_of_length_eq_zero h]; exact .nil
 | cons p r ih =>
  obtain ⟨s, o⟩ := p
  intro vs hl h
  cases vs with
  | nil => cases hl
  | cons v vs =>
   obtain ⟨g, h1, h2⟩ := h 0 s o rfl
   simp only [List.getElem?_cons_zero, Option.some.injEq] at h2
   subst h2
   exact .cons (.t (.cell (.box s o g h1))) (ih vs (by simpa using hl) (fun j s o hj => by simpa using h (j + 1) s o (by simpa using hj)))
theorem fnOf_conc {B : Pv → Nat → Prop} {x : AV T.Γ} {f : FuncId} {caps : List (Nat × Nat)} {v : Value} (h : fnOf x = some (f, caps)) (hc : ConcA T E B w x v) :
  ∃ us : Array Value, v = .func (.func f) #[] us ∧ ConcAs T E B w (caps.map fun p => .t (.cell (.box p.1 p.2))) us.toList := by
 unfold fnOf at h
 split at h
 ·rename_i g a b
  split at h
  ·rename_i hab
   simp only [Option.some.injEq, Prod.mk.injEq] at h
   obtain ⟨rfl, rfl⟩ := h
   simp only [Bool.and_eq_true, beq_iff_eq] at hab
   obtain rfl := Array.eq_empty_of_size_eq_zero hab.1
   obtain rfl := Array.eq_empty_of_size_eq_zero hab.2
   cases hc with | t hc => cases hc with | cell hc => cases hc; exact ⟨#[], rfl, .nil⟩
  ·cases h
 ·simp only [Option.some.injEq, Prod.mk.injEq] at h
  obtain ⟨rfl, rfl⟩ := h
  cases hc with
  | t hc => cases hc with
   | cell hc => cases hc with
    | fn f caps vs hs hh => exact ⟨vs, rfl, caps_conc _ vs.toList (by simpa using hs) (fun j s o hj => by simpa using hh j s o hj)⟩
 ·cases h
theorem call_run {a : Act} {o : Oper} {c : Call} {f : FuncId} {fo : Operand} {us : Array Value} (ho : o.op = .call c) (hc : c.callee = .value fo) (hf : a.eval fo = .func (.func f) #[] us)
  (he : ∀ (vs : Array Value) (w : World), (callFunc f vs).run P w = .ok (.enter f vs) w) :
  (execOp a.eval o).run P w = .ok (.enter f (c.args.map a.eval ++ us)) w := by
 simp only [execOp, ho, resolve, hc, hf]
 have : (invoke (.fn (.func f) us) (#[] ++ c.args.map a.eval)).run P w = .ok (.enter f (c.args.map a.eval ++ us)) w := by
  simp only [invoke, Array.empty_append]
  exact he _ _
 exact this
theorem call_sound (hT : TabOk T P) {S : FuncId → Option (FnS T.Γ)} (hS : ∀ f s, S f = some s → CallOk T P f s) (o : Oper) (c : Call) (fo : Operand) (ho : o.op = .call c) (hcal : c.callee = .value fo) : OpSound T P S o := by
 intro W O A E0 k st E a w v mc st' N Q hR he ha hN
 simp only [evalD, ho, hcal] at he
 split at he
 case h_2 => cases he
 rename_i z1 z2 z3 f caps d vs hfn hd hvs
 split at he
 case h_2 => cases he
 rename_i s hs
 obtain ⟨hcps, henter, hcall⟩ := hS f s hs
 unfold callA at he
 split at he
 ·cases he
 rename_i acc hacc
 split at he
 ·cases he
 rename_i hchk
 rw [hcps] at he
 simp only [Bool.and_eq_true, Bool.not_eq_true', List.isEmpty_iff] at hchk
 obtain ⟨⟨hall, hmt⟩, hvw⟩ := hchk
 generalize hargs : vs ++ caps.map (fun p => (AV.t (TV.cell (CV.box p.1 p.2)) : AV T.Γ)) = args at *
 cases hsp : s.spec k (renA (idx acc) (byVals T s.refs st.mem 0 args)) (liftM T (lend st.mem (idx acc) 0 acc)) (AV T.Γ × Mem T.Γ) (fun v m => some (v, m)) with
 | none => rw [hsp] at he; cases he
 | some q =>
  obtain ⟨v0, m'⟩ := q
  rw [hsp] at he
  simp only [Option.bind_some] at he
  split at he
  case h_2 => cases he
  rename_i hkn
  split at he
  case h_2 => cases he
  rename_i v2 hv2
  simp only [Option.some.injEq, Prod.mk.injEq] at he
  obtain ⟨rfl, hmc⟩ := he
  have hmc : callMC T acc (nm d) m' = mc := hmc
  subst hmc
  obtain ⟨hnd, _, hin, hcl⟩ := reach_spec st.mem 1000 _ _ _ hacc List.nodup_nil
  have hcl := hcl (fun s hs => by cases hs)
  have hap := meets_false hmt
  obtain ⟨fv, hfv, hfo⟩ : ∃ fv, st.eval fo = some fv ∧ fnOf fv = some (f, caps) := by
   cases hq : st.eval fo with
   | none => rw [hq] at hfn; cases hfn
   | some fv => rw [hq] at hfn; exact ⟨fv, rfl, hfn⟩
  obtain ⟨us, hus, hcaps⟩ := fnOf_conc hfo (eval_conc hR hfv)
  have hconc : ConcAs T E (SB T W O A E st.mem w) w args (c.args.map a.eval ++ us).toList := by
   rw [← hargs]
   have h1 := (allVals_conc hR _ _ hvs).append hcaps
   rw [show (c.args.map a.eval ++ us).toList = c.args.toList.map a.eval ++ us.toList by simp]
   exact h1
  have hlen : (lentM T st.mem acc).length = acc.length := by
   have h1 : ∀ m : Mem T.Γ, (liftM T m).length = m.length := fun m => by
    induction m with
    | nil => rfl
    | cons p r ih => obtain ⟨q, b⟩ := p; simp [liftM, ih]
   have h2 : ∀ (l : List Nat) (i : Nat), (∀ s ∈ l, ∃ b, st.mem.get s = some b) → (lend st.mem (idx acc) i l).length = l.length := by
    intro l
    induction l with
    | nil => intro i _; rfl
    | cons s r ih =>
     intro i h
     obtain ⟨b, hb⟩ := h s List.mem_cons_self
     simp only [lend, hb, List.length_cons]
     rw [ih _ (fun q hq => h q (List.mem_cons_of_mem _ hq))]
   unfold lentM
   rw [h1, h2 _ _ (allHas_spec hall)]
  have hC := hcall k _ _ m' v0 hsp (E.by acc) (Seen T W O A E st.mem w (hotsOf T s.refs st.mem 0 args)) w (c.args.map a.eval ++ us).toList
   (byVals_conc hT hR hap s.refs 0 args _ hconc hin (fun s hs => hs)) (lentM_ok hT hR hap hnd hcl hvw) (fun x hx => ⟨fun ho => by
    obtain ⟨s, _, h⟩ := lent_own ho
    exact (hR.glob x hx).1 ⟨s, h⟩, (hR.glob x hx).2⟩)
  rw [Array.toArray_toList] at hC
  show o.upon P a N Q ((execOp a.eval o).run P w)
  rw [call_run ho hcal hus henter, Oper.upon_enter]
  refine hC.mono fun e w' ⟨x, E', he', hL⟩ => ?_
  subst he'
  have hL : Left T (Own (E.by acc) (lentM T st.mem acc)) (Seen T W O A E st.mem w (hotsOf T s.refs st.mem 0 args)) acc.length (E.by acc) w v0 m' E' x w' := by rw [← hlen]; exact hL
  have hnil : (callMC T acc (nm d) m').sets = [] → (callMC T acc (nm d) m').writes = [] ∧ (callMC T acc (nm d) m').news = [] := by
   intro h0
   simp only [callMC, List.append_eq_nil_iff] at h0 ⊢
   refine ⟨?_, by rw [h0.2]; rfl⟩
   cases acc with
   | nil => rfl
   | cons q r => cases h0.1
  have hE : Ended T W O A E0 E E' st a acc (hotsOf T s.refs st.mem 0 args) (nm d) v0 m' x w w' := by
   refine ⟨hR, hnd, allHas_spec hall, hap, allKnown_spec hkn, fun q hq => ?_, hL, ?_⟩
   ·by_cases h0 : (callMC T acc (nm d) m').sets = []
    ·have := (hnil h0).2
     rw [show (backNews T acc (nm d) m').map (·.1) = (callMC T acc (nm d) m').news from rfl, this] at hq
     cases hq
    ·exact (free_spec (apply_free ha h0 q hq)).2.1
   ·unfold putHot at hv2
    split at hv2
    ·rename_i h0; exact .inl h0
    ·split at hv2
     ·rename_i hf
      simp only [Bool.or_eq_false_iff] at hf
      exact .inr hf.2
     ·split at hv2
      ·rename_i hf
       simp only [Bool.and_eq_true, Bool.not_eq_true', Bool.or_eq_false_iff] at hf
       exact .inr hf.2.1
      ·cases hv2
  exact hN _ _ _ (mem_rel' hT hR ha hnil (hE.chg hT) (hE.val hT hv2))
theorem op_sound (hT : TabOk T P) {S : FuncId → Option (FnS T.Γ)} (hS : ∀ f s, S f = some s → CallOk T P f s) (o : Oper) : OpSound T P S o := by
 have no : (∀ (k : Nat) (ev : Operand → Option (AV T.Γ)) (mem : Mem T.Γ), evalD T P S k o ev mem (fun v mc => some (v, mc)) = none) → OpSound T P S o := by
  intro h W O A E0 k st E a w v mc st' N Q hR he
  rw [h] at he
  cases he
 cases hop : o.op with
 | move x => exact assign_sound hT S o x (.inr hop)
 | assign x => exact assign_sound hT S o x (.inl hop)
 | pick c a b => exact (pick_ok S o c a b hop).sound
 | alloc e => exact alloc_sound hT S o e hop
 | box e x => exact box_sound hT S o e x hop
 | build t ps => exact (build_ok hT S o t ps hop).sound
 | buildSlice t n ps => exact buildSlice_sound hT S o t n ps hop
 | load t x => exact (load_ok hT S o t x hop).sound
 | store t x y => exact store_sound hT S o t x y hop
 | nilCheck x => exact (nilCheck_ok S o x hop).sound
 | binOp op t x y t2 => exact (binOp_ok hT S o op t t2 x y hop).sound
 | unOp op t x => exact (unOp_ok S o op t x hop).sound
 | convert s d x => exact (convert_ok hT S o s d x hop).sound
 | makeFunc fn first captured => exact (makeFunc_ok S o fn first captured hop).sound
 | makeSlice t l c => exact makeSlice_sound hT S o t l c hop
 | slice t x lo hi mx => exact (slice_ok hT S o t x lo hi mx hop).sound
 | fieldAddr t x f => exact (fieldAddr_ok hT S o t x f hop).sound
 | field t x f => exact (field_ok hT S o t x f hop).sound
 | indexAddr t x ix => exact (indexAddr_ok hT S o t x ix hop).sound
 | index t x ix => exact (index_ok hT S o t x ix hop).sound
 | extract x i => exact (extract_ok S o x i hop).sound
 | call c =>
  cases hcal : c.callee with
  | value fo => exact call_sound hT hS o c fo hop hcal
  | invoke r m => exact no (fun k ev mem => by simp only [evalD, hop, hcal])
  | builtin b =>
   cases b with
   | append => exact append_sound hT S o c hop hcal
   | copy => exact copy_sound hT S o c hop hcal
   | len => exact (len_ok hT S o c hop hcal).sound
   | max => exact (max_ok S o c hop hcal).sound
   | min => exact (min_ok S o c hop hcal).sound
   | _ => exact no (fun k ev mem => by simp only [evalD, hop, hcal])
 | _ => exact no (fun k ev mem => by simp only [evalD, hop])
end
end Go.Proofs.YtbbpcbjgekencaaGreatDoor.Ev
end
section
set_option linter.unusedVariables false
set_option linter.unusedSimpArgs false
set_option linter.unusedVariables false
namespace Go.Proofs.YtbbpcbjgekencaaGreatDoor.Ev
open Go Go.RowKit
section
variable {T : Tab} {P : Program} {m m' : Mem T.Γ}
theorem has_eq {s : Nat} (h : m'.get s = m.get s) : m'.has s = m.has s := by unfold Mem.has; rw [h]
theorem nmIn_eq {d : Nat} (h : m'.get (nm d) = m.get (nm d)) : nmIn m' d = nmIn m d := by unfold nmIn; rw [has_eq h]
theorem okCell_eq {x : CV T.Γ} (h : ∀ s ∈ x.sites, m'.get s = m.get s) : okCell m' x = okCell m x := by
 cases x with
 | own s => simp only [okCell]; rw [h s (by simp [CV.sites])]
 | c v => cases v with
  | slice a l c => cases a <;> cases l <;> cases c <;> rfl
  | _ => rfl
 | _ => rfl
theorem okCells_eq : ∀ {l : List (CV T.Γ)}, (∀ s ∈ sitesL l, m'.get s = m.get s) → okCells m' l = okCells m l
 | [], _ => rfl
 | x :: r, h => by
  simp only [okCells]
  rw [okCell_eq (fun s hs => h s (List.mem_append_left _ hs)), okCells_eq (fun s hs => h s (List.mem_append_right _ hs))]
theorem cellsOf_eq {v : AV T.Γ} (h : ∀ s ∈ v.sites, m'.get s = m.get s) : cellsOf m' v = cellsOf m v := by
 cases v with
 | tup l => rfl
 | t x =>
  cases x with
  | cell x => simp only [cellsOf]; rw [okCell_eq h]
  | agg l => simp only [cellsOf]; rw [okCells_eq h]
theorem cellsOf_sites {v : AV T.Γ} {cs : List (CV T.Γ)} (h : cellsOf m v = some cs) : v.sites = sitesL cs := by
 cases v with
 | tup l => cases h
 | t x =>
  cases x with
  | cell x =>
   simp only [cellsOf] at h
   split at h
   ·simp only [Option.some.injEq] at h; subst h; simp [AV.sites, TV.sites, sitesL]
   ·cases h
  | agg l =>
   simp only [cellsOf] at h
   split at h
   ·simp only [Option.some.injEq] at h; subst h; rfl
   ·cases h
theorem loadA_eq {t : TypeId} {x : CV T.Γ} (h : ∀ s ∈ x.sites, m'.get s = m.get s) {ω : Type} (K : AV T.Γ → Option ω) : loadA T t m' x K = loadA T t m x K := by
 cases x with
 | box s o => simp only [loadA]; rw [h s (by simp [CV.sites])]
 | rowp s e i o => simp only [loadA]; rw [h s (by simp [CV.sites])]
 | _ => rfl
theorem chill_eq : ∀ {l : List (CV T.Γ)}, (∀ s ∈ sitesL l, m'.get s = m.get s) → chill T m' l = chill T m l
 | [], _ => rfl
 | x :: r, h => by
  simp only [chill]
  rw [chill_eq (fun s hs => h s (List.mem_append_right _ hs))]
  cases x with
  | own s => simp only; rw [h s (by simp [sitesL, CV.sites])]
  | sl p e l =>
   cases p with
   | of s => simp only; rw [h s (by simp [sitesL, CV.sites, Pv.sites])]
   | mix s => simp only; rw [h s (by simp [sitesL, CV.sites, Pv.sites])]
   | _ => rfl
  | _ => rfl
theorem cleanOf_eq {ws : List Nat} {l : List (CV T.Γ)} (h : ∀ s ∈ sitesL l, m'.get s = m.get s) : cleanOf T m' ws l = cleanOf T m ws l := by
 unfold cleanOf; rw [chill_eq h]
theorem storeA_eq {x : CV T.Γ} {cs : List (CV T.Γ)} (h : ∀ s ∈ x.sites, m'.get s = m.get s) (hc : ∀ s ∈ sitesL cs, m'.get s = m.get s) {ω : Type} (K : List (Nat × Option (Blk T.Γ)) → List Nat → Option ω) : storeA T m' x cs K = storeA T m x cs K := by
 cases x with
 | box s o => simp only [storeA]; rw [h s (by simp [CV.sites])]
 | rowp s e i o => simp only [storeA]; rw [h s (by simp [CV.sites]), cleanOf_eq hc, chill_eq hc]
 | _ => rfl
theorem indexA_eq {elem : TypeId} {x : CV T.Γ} {i : Int} (h : ∀ s ∈ x.sites, m'.get s = m.get s) {ω : Type} (K : CV T.Γ → Option ω) : indexA T m' elem x i K = indexA T m elem x i K := by
 cases x with
 | own s => simp only [indexA]; rw [h s (by simp [CV.sites])]
 | _ => rfl
theorem sliceA_eq {elem : TypeId} {x : CV T.Γ} {lo hi : Option (Option (AV T.Γ))} (h : ∀ s ∈ x.sites, m'.get s = m.get s) {ω : Type} (K : CV T.Γ → Option ω) : sliceA T m' elem x lo hi K = sliceA T m elem x lo hi K := by
 cases x with
 | own s => simp only [sliceA]; rw [h s (by simp [CV.sites])]
 | c v => cases v with
  | slice a l c => cases a <;> cases l <;> cases c <;> rfl
  | _ => rfl
 | _ => rfl
theorem content_eq {e : TypeId} {x : CV T.Γ} (h : ∀ s ∈ x.sites, m'.get s = m.get s) : content T m' e x = content T m e x := by
 cases x with
 | own s => simp only [content]; rw [h s (by simp [CV.sites])]
 | c v => cases v with
  | slice a l c => cases a <;> cases l <;> cases c <;> rfl
  | _ => rfl
 | _ => rfl
theorem lenOf_eq {x : CV T.Γ} (h : ∀ s ∈ x.sites, m'.get s = m.get s) : lenOf T m' x = lenOf T m x := by
 cases x with
 | own s => simp only [lenOf]; rw [h s (by simp [CV.sites])]
 | c v => cases v with
  | slice a l c => cases a <;> cases l <;> cases c <;> rfl
  | _ => rfl
 | _ => rfl
theorem hotRows_eq : ∀ {l : List Nat}, (∀ s ∈ l, m'.get s = m.get s) → hotRows T m' l = hotRows T m l
 | [], _ => rfl
 | x :: r, h => by
  simp only [hotRows]
  rw [h x List.mem_cons_self, hotRows_eq (fun s hs => h s (List.mem_cons_of_mem _ hs))]
theorem sitesL_set {l : List (CV T.Γ)} {o : Nat} : ∀ {xs : List (CV T.Γ)} {s : Nat}, s ∈ sitesL (setAt l o xs) → s ∈ sitesL l ∨ s ∈ sitesL xs := by
 intro xs s h
 have : ∀ {l : List (CV T.Γ)}, s ∈ sitesL l → ∃ c ∈ l, s ∈ c.sites := by
  intro l
  induction l with
  | nil => intro h; cases h
  | cons x r ih =>
   intro h
   simp only [sitesL, List.mem_append] at h
   rcases h with h | h
   ·exact ⟨x, List.mem_cons_self, h⟩
   ·obtain ⟨c, hc, hs⟩ := ih h
    exact ⟨c, List.mem_cons_of_mem _ hc, hs⟩
 obtain ⟨c, hc, hs⟩ := this h
 rcases setAt_mem hc with hc | hc
 ·exact .inl (sitesL_mem hc hs)
 ·exact .inr (sitesL_mem hc hs)
theorem fillS_eq {fs : Array Field} : ∀ {ps : List (Nat × AV T.Γ)} {cells : List (CV T.Γ)}, (∀ p ∈ ps, ∀ s ∈ p.2.sites, m'.get s = m.get s) → fillS T m' fs cells ps = fillS T m fs cells ps
 | [], _, _ => rfl
 | (i, v) :: r, cells, h => by
  simp only [fillS]
  rw [cellsOf_eq (h _ List.mem_cons_self)]
  cases fs[i]? with
  | none => rfl
  | some f =>
   cases cellsOf m v with
   | none => rfl
   | some l =>
    simp only
    cases decide (T.size f.type = some l.length) && Nat.ble (f.offset + l.length) cells.length with
    | false => rfl
    | true => exact fillS_eq (fun p hp => h p (List.mem_cons_of_mem _ hp))
theorem fillR_eq {size : Nat} : ∀ {ps : List (Nat × AV T.Γ)} {cells : List (CV T.Γ)}, (∀ p ∈ ps, ∀ s ∈ p.2.sites, m'.get s = m.get s) → fillR T m' size cells ps = fillR T m size cells ps
 | [], _, _ => rfl
 | (i, v) :: r, cells, h => by
  simp only [fillR]
  rw [cellsOf_eq (h _ List.mem_cons_self)]
  cases cellsOf m v with
  | none => rfl
  | some l =>
   simp only
   cases l.length == size && Nat.ble (i * size + size) cells.length with
   | false => rfl
   | true => exact fillR_eq (fun p hp => h p (List.mem_cons_of_mem _ hp))
theorem fillR_sites {size : Nat} : ∀ {ps : List (Nat × AV T.Γ)} {cells cs : List (CV T.Γ)}, fillR T m size cells ps = some cs → ∀ s ∈ sitesL cs, s ∈ sitesL cells ∨ ∃ p ∈ ps, s ∈ p.2.sites
 | [], cells, cs, h, s, hs => by simp only [fillR, Option.some.injEq] at h; subst h; exact .inl hs
 | (i, v) :: r, cells, cs, h, s, hs => by
  simp only [fillR] at h
  split at h
  ·rename_i l hl
   split at h
   ·rcases fillR_sites h s hs with h1 | ⟨p, hp, h1⟩
    ·rcases sitesL_set h1 with h2 | h2
     ·exact .inl h2
     ·exact .inr ⟨_, List.mem_cons_self, by rw [cellsOf_sites hl]; exact h2⟩
    ·exact .inr ⟨p, List.mem_cons_of_mem _ hp, h1⟩
   ·cases h
  ·cases h
theorem byVal1_eq {hot : Bool} {x : CV T.Γ} (h : ∀ s ∈ x.sites, m'.get s = m.get s) : byVal1 T hot m' x = byVal1 T hot m x := by
 cases x with
 | own s => simp only [byVal1]; rw [h s (by simp [CV.sites])]
 | _ => rfl
theorem byValL_eq {hot : Bool} : ∀ {l : List (CV T.Γ)}, (∀ s ∈ sitesL l, m'.get s = m.get s) → byValL T hot m' l = byValL T hot m l
 | [], _ => rfl
 | x :: r, h => by
  simp only [byValL]
  rw [byVal1_eq (fun s hs => h s (List.mem_append_left _ hs)), byValL_eq (fun s hs => h s (List.mem_append_right _ hs))]
theorem byValT_eq {hot : Bool} {x : TV T.Γ} (h : ∀ s ∈ x.sites, m'.get s = m.get s) : byValT T hot m' x = byValT T hot m x := by
 cases x with
 | cell x => simp only [byValT]; rw [byVal1_eq h]
 | agg l => simp only [byValT]; rw [byValL_eq h]
theorem byValTs_eq {hot : Bool} : ∀ {l : List (TV T.Γ)}, (∀ s ∈ sitesT l, m'.get s = m.get s) → byValTs T hot m' l = byValTs T hot m l
 | [], _ => rfl
 | x :: r, h => by
  simp only [byValTs]
  rw [byValT_eq (fun s hs => h s (List.mem_append_left _ hs)), byValTs_eq (fun s hs => h s (List.mem_append_right _ hs))]
theorem byVal_eq {hot : Bool} {x : AV T.Γ} (h : ∀ s ∈ x.sites, m'.get s = m.get s) : byVal T hot m' x = byVal T hot m x := by
 cases x with
 | t x => simp only [byVal]; rw [byValT_eq h]
 | tup l => simp only [byVal]; rw [byValTs_eq h]
theorem byVals_eq {refs : List Nat} : ∀ {i : Nat} {l : List (AV T.Γ)}, (∀ s ∈ sitesA l, m'.get s = m.get s) → byVals T refs m' i l = byVals T refs m i l
 | _, [], _ => rfl
 | i, x :: r, h => by
  simp only [byVals]
  rw [byVal_eq (fun s hs => h s (List.mem_append_left _ hs)), byVals_eq (fun s hs => h s (List.mem_append_right _ hs))]
theorem byVal1_sites {hot : Bool} {x : CV T.Γ} : ∀ s ∈ (byVal1 T hot m x).sites, s ∈ x.sites := by
 intro s h
 cases x with
 | own q =>
  simp only [byVal1] at h
  split at h
  ·split at h
   ·cases h
   ·exact h
  ·cases h
  ·exact h
 | sl p e l => cases h
 | elp p e y o => cases h
 | _ => exact h
theorem byValL_sites {hot : Bool} : ∀ {l : List (CV T.Γ)}, ∀ s ∈ sitesL (byValL T hot m l), s ∈ sitesL l
 | [], _, h => h
 | x :: r, s, h => by
  simp only [byValL, sitesL, List.mem_append] at h ⊢
  exact h.imp (byVal1_sites s) (byValL_sites s)
theorem byValT_sites {hot : Bool} {x : TV T.Γ} : ∀ s ∈ (byValT T hot m x).sites, s ∈ x.sites := by
 intro s h
 cases x with
 | cell x => exact byVal1_sites s h
 | agg l => exact byValL_sites s h
theorem byValTs_sites {hot : Bool} : ∀ {l : List (TV T.Γ)}, ∀ s ∈ sitesT (byValTs T hot m l), s ∈ sitesT l
 | [], _, h => h
 | x :: r, s, h => by
  simp only [byValTs, sitesT, List.mem_append] at h ⊢
  exact h.imp (byValT_sites s) (byValTs_sites s)
theorem byVal_sites {hot : Bool} {x : AV T.Γ} : ∀ s ∈ (byVal T hot m x).sites, s ∈ x.sites := by
 intro s h
 cases x with
 | t x => exact byValT_sites s h
 | tup l => exact byValTs_sites s h
theorem byVals_sites {refs : List Nat} : ∀ {i : Nat} {l : List (AV T.Γ)}, ∀ s ∈ sitesA (byVals T refs m i l), s ∈ sitesA l
 | _, [], _, h => h
 | i, x :: r, s, h => by
  simp only [byVals, sitesA, List.mem_append] at h ⊢
  exact h.imp (byVal_sites s) (byVals_sites s)
theorem hotsOf_eq {refs : List Nat} : ∀ {i : Nat} {l : List (AV T.Γ)}, (∀ s ∈ sitesA l, m'.get s = m.get s) → hotsOf T refs m' i l = hotsOf T refs m i l
 | _, [], _ => rfl
 | i, x :: r, h => by
  simp only [hotsOf]
  rw [hotRows_eq (fun s hs => h s (List.mem_append_left _ hs)), hotsOf_eq (fun s hs => h s (List.mem_append_right _ hs))]
section
variable {D : List Nat} (hD : ∀ s ∈ D, m'.get s = m.get s) (hcl : ∀ s ∈ D, ∀ b, m.get s = some b → ∀ t ∈ b.sites, t ∈ D)
include hD hcl
theorem reach_eq : ∀ (n : Nat) (todo acc : List Nat), (∀ s ∈ todo, s ∈ D) → reach m' n todo acc = reach m n todo acc := by
 intro n
 induction n with
 | zero => intro todo acc h; rfl
 | succ n ih =>
  intro todo acc h
  cases todo with
  | nil => rfl
  | cons s r =>
   have hs := h s List.mem_cons_self
   have hr := fun t ht => h t (List.mem_cons_of_mem s ht)
   simp only [reach]
   rw [hD s hs]
   split
   ·exact ih r acc hr
   ·split
    ·rename_i b hb
     refine ih _ _ (fun t ht => ?_)
     rcases List.mem_append.mp ht with ht | ht
     ·exact hcl s hs b hb t ht
     ·exact hr t ht
    ·exact ih r _ hr
omit hD in
theorem reach_in : ∀ (n : Nat) (todo acc0 acc : List Nat), (∀ s ∈ todo, s ∈ D) → (∀ s ∈ acc0, s ∈ D) → reach m n todo acc0 = some acc → ∀ s ∈ acc, s ∈ D := by
 intro n
 induction n with
 | zero => intro todo acc0 acc h h0 hr; cases hr
 | succ n ih =>
  intro todo acc0 acc h h0 hr
  cases todo with
  | nil => simp only [reach, Option.some.injEq] at hr; subst hr; exact h0
  | cons s r =>
   have hs := h s List.mem_cons_self
   have hrr := fun t ht => h t (List.mem_cons_of_mem s ht)
   have h1 : ∀ t ∈ acc0 ++ [s], t ∈ D := fun t ht => by
    rcases List.mem_append.mp ht with ht | ht
    ·exact h0 t ht
    ·simp at ht; subst ht; exact hs
   simp only [reach] at hr
   split at hr
   ·exact ih r acc0 acc hrr h0 hr
   ·split at hr
    ·rename_i b hb
     refine ih _ _ acc (fun t ht => ?_) h1 hr
     rcases List.mem_append.mp ht with ht | ht
     ·exact hcl s hs b hb t ht
     ·exact hrr t ht
    ·exact ih r _ acc hrr h1 hr
omit hcl in
theorem lend_eq (f : Nat → Nat) : ∀ (acc : List Nat) (i : Nat), (∀ s ∈ acc, s ∈ D) → lend m' f i acc = lend m f i acc := by
 intro acc
 induction acc with
 | nil => intro i h; rfl
 | cons s r ih =>
  intro i h
  simp only [lend]
  rw [hD s (h s List.mem_cons_self), ih _ (fun t ht => h t (List.mem_cons_of_mem s ht))]
omit hcl in
theorem allHas_eq : ∀ (acc : List Nat), (∀ s ∈ acc, s ∈ D) → allHas m' acc = allHas m acc := by
 intro acc
 induction acc with
 | nil => intro h; rfl
 | cons s r ih =>
  intro h
  simp only [allHas]
  rw [has_eq (hD s (h s List.mem_cons_self)), ih (fun t ht => h t (List.mem_cons_of_mem s ht))]
theorem callA_eq {f : FnS T.Γ} {k d : Nat} {vs : List (AV T.Γ)} (hv : ∀ s ∈ sitesA vs, s ∈ D) {ω : Type} (K : AV T.Γ → MC T.Γ → Option ω) : callA T f k d vs m' K = callA T f k d vs m K := by
 have h0 : ∀ s ∈ sitesA vs, m'.get s = m.get s := fun s hs => hD s (hv s hs)
 unfold callA
 rw [byVals_eq h0, hotsOf_eq h0, reach_eq hD hcl _ _ _ (fun s hs => hv s (byVals_sites s hs))]
 cases hr : reach m 1000 (sitesA (byVals T f.refs m 0 vs)) [] with
 | none => rfl
 | some acc =>
  have hin := reach_in hcl _ _ _ _ (fun s hs => hv s (byVals_sites s hs)) (fun s hs => by cases hs) hr
  simp only
  rw [lend_eq hD (idx acc) acc 0 hin, allHas_eq hD acc hin]
end
theorem sitesA_of {l : List (AV T.Γ)} {s : Nat} (h : s ∈ sitesA l) : ∃ v ∈ l, s ∈ v.sites := by
 induction l with
 | nil => cases h
 | cons x r ih =>
  simp only [sitesA, List.mem_append] at h
  rcases h with h | h
  ·exact ⟨x, List.mem_cons_self, h⟩
  ·obtain ⟨v, hv, hs⟩ := ih h
   exact ⟨v, List.mem_cons_of_mem _ hv, hs⟩
section
variable {ev ev' : Operand → Option (AV T.Γ)}
theorem allVals_mono : ∀ {xs : List Operand} {vs : List (AV T.Γ)}, (∀ x ∈ xs, ∀ u, ev x = some u → ev' x = some u) → allVals ev xs = some vs → allVals ev' xs = some vs
 | [], _, _, h => h
 | x :: r, vs, he, h => by
  simp only [allVals] at h ⊢
  split at h
  ·rename_i v hv
   rw [he x List.mem_cons_self v hv]
   cases hq : allVals ev r with
   | none => rw [hq] at h; cases h
   | some l =>
    rw [hq] at h
    rw [allVals_mono (fun y hy => he y (List.mem_cons_of_mem _ hy)) hq]
    exact h
  ·cases h
theorem allVals_mem : ∀ {xs : List Operand} {vs : List (AV T.Γ)}, allVals ev xs = some vs → ∀ v ∈ vs, ∃ x ∈ xs, ev x = some v
 | [], vs, h, v, hv => by simp only [allVals, Option.some.injEq] at h; subst h; cases hv
 | x :: r, vs, h, v, hv => by
  simp only [allVals] at h
  split at h
  ·rename_i u hu
   cases hq : allVals ev r with
   | none => rw [hq] at h; cases h
   | some l =>
    rw [hq] at h
    simp only [Option.map_some, Option.some.injEq] at h
    subst h
    cases hv with
    | head => exact ⟨x, List.mem_cons_self, hu⟩
    | tail _ hv =>
     obtain ⟨y, hy, h1⟩ := allVals_mem hq v hv
     exact ⟨y, List.mem_cons_of_mem _ hy, h1⟩
  ·cases h
theorem bind_mono {x : Operand} {β : Type} {f : AV T.Γ → Option β} {r : β} (he : ∀ u, ev x = some u → ev' x = some u) (h : (ev x).bind f = some r) : (ev' x).bind f = some r := by
 cases hq : ev x with
 | none => rw [hq] at h; cases h
 | some u => rw [hq] at h; rw [he u hq]; exact h
theorem allValues_mono : ∀ {xs : List Operand} {vs : List Value}, (∀ x ∈ xs, ∀ u, ev x = some u → ev' x = some u) → allValues ev xs = some vs → allValues ev' xs = some vs
 | [], _, _, h => h
 | x :: r, vs, he, h => by
  simp only [allValues] at h ⊢
  split at h
  ·rename_i v hv
   rw [bind_mono (he x List.mem_cons_self) hv]
   cases hq : allValues ev r with
   | none => rw [hq] at h; cases h
   | some l =>
    rw [hq] at h
    rw [allValues_mono (fun y hy => he y (List.mem_cons_of_mem _ hy)) hq]
    exact h
  ·cases h
theorem partsOf_mono : ∀ {ps : List (Nat × Operand)} {qs : List (Nat × AV T.Γ)}, (∀ p ∈ ps, ∀ u, ev p.2 = some u → ev' p.2 = some u) → partsOf T ev ps = some qs → partsOf T ev' ps = some qs
 | [], _, _, h => h
 | (i, x) :: r, vs, he, h => by
  simp only [partsOf] at h ⊢
  split at h
  ·rename_i v hv
   rw [he (i, x) List.mem_cons_self v hv]
   cases hq : partsOf T ev r with
   | none => rw [hq] at h; cases h
   | some l =>
    rw [hq] at h
    rw [partsOf_mono (fun y hy => he y (List.mem_cons_of_mem _ hy)) hq]
    exact h
  ·cases h
theorem partsOf_mem : ∀ {ps : List (Nat × Operand)} {qs : List (Nat × AV T.Γ)}, partsOf T ev ps = some qs → ∀ q ∈ qs, ∃ p ∈ ps, ev p.2 = some q.2
 | [], vs, h, v, hv => by simp only [partsOf, Option.some.injEq] at h; subst h; cases hv
 | (i, x) :: r, vs, h, v, hv => by
  simp only [partsOf] at h
  split at h
  ·rename_i u hu
   cases hq : partsOf T ev r with
   | none => rw [hq] at h; cases h
   | some l =>
    rw [hq] at h
    simp only [Option.map_some, Option.some.injEq] at h
    subst h
    cases hv with
    | head => exact ⟨(i, x), List.mem_cons_self, hu⟩
    | tail _ hv =>
     obtain ⟨y, hy, h1⟩ := partsOf_mem hq v hv
     exact ⟨y, List.mem_cons_of_mem _ hy, h1⟩
  ·cases h
end
end
end Go.Proofs.YtbbpcbjgekencaaGreatDoor.Ev
end
section
set_option linter.unusedVariables false
set_option linter.unusedSimpArgs false
set_option linter.unusedVariables false
namespace Go.Proofs.YtbbpcbjgekencaaGreatDoor.Ev
open Go Go.RowKit
section
variable {T : Tab} {P : Program} {m m' : Mem T.Γ}
theorem sitesL_rep {z : List (CV T.Γ)} {len : Nat} {s : Nat} (hz : ∀ c ∈ z, c.sites = []) : s ∉ sitesL (List.replicate len z).flatten := by
 have : ∀ l : List (CV T.Γ), (∀ c ∈ l, c.sites = []) → s ∉ sitesL l := by
  intro l
  induction l with
  | nil => intro _ h; cases h
  | cons x r ih =>
   intro h hs
   simp only [sitesL, List.mem_append] at hs
   rcases hs with hs | hs
   ·rw [h x List.mem_cons_self] at hs; cases hs
   ·exact ih (fun c hc => h c (List.mem_cons_of_mem _ hc)) hs
 refine this _ (fun c hc => ?_)
 obtain ⟨l, hl, hcl⟩ := List.mem_flatten.mp hc
 rw [(List.mem_replicate.mp hl).2] at hcl
 exact hz c hcl
theorem zeroCells_sites {e : TypeId} {z : List (CV T.Γ)} (h : zeroCells T e = some z) : ∀ c ∈ z, c.sites = [] := by
 unfold zeroCells at h
 split at h
 ·exact ofCells_sites _ _ h
 ·cases h
theorem bound_mono {ev ev' : Operand → Option (AV T.Γ)} {d n : Int} {lo : Option Operand} (he : ∀ x, lo = some x → ∀ u, ev x = some u → ev' x = some u) (h : bound T d (lo.map ev) = some n) : bound T d (lo.map ev') = some n := by
 cases lo with
 | none => exact h
 | some x =>
  simp only [Option.map_some] at h ⊢
  cases hx : ev x with
  | none => rw [hx] at h; cases h
  | some u => rw [hx] at h; rw [he x rfl u hx]; exact h
theorem sliceL_mono {ev ev' : Operand → Option (AV T.Γ)} {lo hi : Option Operand} (hl : ∀ x, lo = some x → ∀ u, ev x = some u → ev' x = some u) (hh : ∀ x, hi = some x → ∀ u, ev x = some u → ev' x = some u) {e : TypeId} {q : Pv} {l : List (T.Γ.el e).ty} {ω : Type} {K : CV T.Γ → Option ω} {r : ω}
  (h : sliceL T q l (lo.map ev) (hi.map ev) K = some r) : sliceL T q l (lo.map ev') (hi.map ev') K = some r := by
 unfold sliceL at h ⊢
 split at h
 ·rename_i a b h1 h2
  rw [bound_mono hl h1, bound_mono hh h2]
  exact h
 ·cases h
theorem sliceA_mono {ev ev' : Operand → Option (AV T.Γ)} {lo hi : Option Operand} (hl : ∀ x, lo = some x → ∀ u, ev x = some u → ev' x = some u) (hh : ∀ x, hi = some x → ∀ u, ev x = some u → ev' x = some u) {e : TypeId} {p : CV T.Γ} {ω : Type} {K : CV T.Γ → Option ω} {r : ω}
  (h : sliceA T m e p (lo.map ev) (hi.map ev) K = some r) : sliceA T m e p (lo.map ev') (hi.map ev') K = some r := by
 unfold sliceA at h ⊢
 split at h
 ·split at h
  ·rename_i a b h1 h2 h3
   rw [bound_mono hl h1, bound_mono hh h2, h3]
   exact h
  ·cases h
 ·split at h
  ·exact sliceL_mono hl hh h
  ·cases h
 ·split at h
  ·split at h
   ·exact sliceL_mono hl hh h
   ·cases h
  ·split at h
   ·exact sliceL_mono hl hh h
   ·cases h
  ·cases h
 ·cases h
theorem evalD_mono {S : FuncId → Option (FnS T.Γ)} {k : Nat} {o : Oper} {ev ev' : Operand → Option (AV T.Γ)} {D : List Nat} (he : ∀ x ∈ o.op.operands.toList, ∀ u, ev x = some u → ev' x = some u) (hs : ∀ x ∈ o.op.operands.toList, ∀ u, ev x = some u → ∀ s ∈ u.sites, s ∈ D)
  (hD : ∀ s ∈ D, m'.get s = m.get s) (hcl : ∀ s ∈ D, ∀ b, m.get s = some b → ∀ t ∈ b.sites, t ∈ D) (hd : ∀ d, o.dst = some d → m'.get (nm d) = m.get (nm d)) {v : AV T.Γ} {mc : MC T.Γ}
  (h : evalD T P S k o ev m (fun v mc => some (v, mc)) = some (v, mc)) : evalD T P S k o ev' m' (fun v mc => some (v, mc)) = some (v, mc) := by
 have hv : ∀ x ∈ o.op.operands.toList, ∀ u, ev x = some u → ∀ s ∈ u.sites, m'.get s = m.get s := fun x hx u hu s h => hD s (hs x hx u hu s h)
 cases hop : o.op <;> simp only [evalD, hop] at h ⊢
 all_goals (rw [hop] at he hs hv; simp only [Op.operands, List.mem_cons, List.not_mem_nil, or_false, forall_eq_or_imp, forall_eq] at he hs hv)
 case pick c a b =>
  obtain ⟨e1, e2, e3⟩ := he
  split at h
  ·rename_i t ht
   rw [e1 _ ht]
   rcases br_some h with ⟨hc, h⟩ | ⟨hc, h⟩
   ·simp only [br, if_pos hc]
    split at h
    ·rename_i u hu; rw [e2 _ hu]; exact h
    ·cases h
   ·simp only [br, if_neg hc]
    split at h
    ·rename_i u hu; rw [e3 _ hu]; exact h
    ·cases h
  ·cases h
 case move x =>
  split at h
  ·rename_i e d h1 h2
   rw [nmIn_eq (hd d h2)]
   exact h
  ·split at h
   ·rename_i u hu; rw [he _ hu]; exact h
   ·cases h
 case assign x =>
  split at h
  ·rename_i e d h1 h2
   rw [nmIn_eq (hd d h2)]
   exact h
  ·split at h
   ·rename_i u hu; rw [he _ hu]; exact h
   ·cases h
 case alloc e =>
  split at h
  ·rename_i d cs h1 h2
   rw [nmIn_eq (hd d h1)]
   exact h
  ·cases h
 case box e x =>
  split at h
  ·rename_i d cs h1 h2
   cases hx : ev x with
   | none => rw [hx] at h2; cases h2
   | some u =>
    rw [hx] at h2
    rw [h1, he _ hx, Option.bind_some, cellsOf_eq (hv u hx), show cellsOf m u = some cs from h2]
    simp only
    rw [nmIn_eq (hd d h1)]
    exact h
  ·cases h
 case load t x =>
  split at h
  ·rename_i p hp
   rw [he _ hp]
   simp only
   rw [loadA_eq (hv _ hp)]
   exact h
  ·cases h
 case store t x y =>
  split at h
  ·rename_i p cs hp hc
   cases hy : ev y with
   | none => rw [hy] at hc; cases hc
   | some u =>
    rw [hy] at hc
    rw [he.1 _ hp, he.2 _ hy, Option.bind_some, cellsOf_eq (hv.2 u hy), show cellsOf m u = some cs from hc]
    simp only
    split at h
    ·rw [storeA_eq (hv.1 _ hp) (fun s hs => hv.2 u hy s (by rw [cellsOf_sites hc]; exact hs))]
     exact h
    ·cases h
  ·cases h
 case nilCheck x =>
  split at h
  ·rename_i h1; rw [he _ h1]; exact h
  ·rename_i h1; rw [he _ h1]; exact h
  ·rename_i h1; rw [he _ h1]; exact h
  ·cases h
 case fieldAddr t x f =>
  split at h
  ·rename_i h0 h1; rw [h0, he _ h1]; exact h
  ·cases h
 case field t x f =>
  split at h
  ·rename_i h0 h1; rw [h0, he _ h1]; exact h
  ·cases h
 case indexAddr t x ix =>
  split at h
  ·rename_i h0 h1 h2
   rw [h0, he.1 _ h1, he.2 _ h2]
   simp only
   rw [indexA_eq (hv.1 _ h1)]
   exact h
  ·cases h
 case extract x i =>
  split at h
  ·rename_i h1; rw [he _ h1]; exact h
  ·cases h
 case binOp op t x y t2 =>
  split at h
  ·rename_i a b h1 h2
   rw [bind_mono (he.1) h1, bind_mono (he.2) h2]
   exact h
  ·cases h
 case unOp op t x =>
  split at h
  ·rename_i a h1
   rw [bind_mono he h1]
   exact h
  ·cases h
 case convert s d x =>
  split at h
  ·rename_i h0 h00 h1; rw [h0, h00, he _ h1]; exact h
  ·cases h
 case index t x ix =>
  split at h
  ·rename_i h0 h1 h2
   rw [h0, bind_mono he.1 h1, bind_mono he.2 h2]
   exact h
  ·rename_i h0 h1 h2
   rw [h0, bind_mono he.1 h1, bind_mono he.2 h2]
   exact h
  ·cases h
 case makeSlice t l c =>
  split at h
  ·rename_i e d _ n _ c' h0 h1 h2 h3
   rw [h0, h1, he.1 _ h2, he.2 _ h3]
   simp only
   rw [nmIn_eq (hd d h1)]
   exact h
  ·cases h
 case build t ps =>
  split at h
  ·rename_i fs z qs h0 h1 h2
   have hm : ∀ p ∈ ps.toList, ∀ u, ev p.2 = some u → ev' p.2 = some u := fun p hp u hu => he _ (List.mem_map.mpr ⟨p, hp, rfl⟩) u hu
   rw [h0, h1, partsOf_mono hm h2]
   simp only
   rw [fillS_eq (m' := m') (m := m) (fun q hq s hs => by
    obtain ⟨p, hp, h3⟩ := partsOf_mem h2 q hq
    exact hv p.2 (List.mem_map.mpr ⟨p, hp, rfl⟩) _ h3 s hs)]
   exact h
  ·cases h
 case buildSlice t n ps =>
  split at h
  ·rename_i e d qs h0 h1 h2
   have hm : ∀ p ∈ ps.toList, ∀ u, ev p.2 = some u → ev' p.2 = some u := fun p hp u hu => he _ (List.mem_map.mpr ⟨p, hp, rfl⟩) u hu
   have hq2 : ∀ q ∈ qs, ∀ s ∈ q.2.sites, m'.get s = m.get s := fun q hq s hs => by
    obtain ⟨p, hp, h3⟩ := partsOf_mem h2 q hq
    exact hv p.2 (List.mem_map.mpr ⟨p, hp, rfl⟩) _ h3 s hs
   rw [h0, h1, partsOf_mono hm h2]
   simp only
   split at h
   ·rename_i z h3 h4
    rw [fillR_eq (m' := m') (m := m) hq2]
    split at h
    ·rename_i cs h5
     have hcs : ∀ s ∈ sitesL cs, m'.get s = m.get s := fun s hs => by
      rcases fillR_sites h5 s hs with h6 | ⟨p, hp, h6⟩
      ·exact absurd h6 (sitesL_rep (zeroCells_sites h4))
      ·exact hq2 p hp s h6
     rw [cleanOf_eq hcs, chill_eq hcs, nmIn_eq (hd d h1)]
     exact h
    ·cases h
   ·cases h
  ·cases h
 case makeFunc fn first captured =>
  cases fn <;> simp only [evalD, hop] at h ⊢
  case func f =>
   split at h
   ·rename_i caps h1 h2
    cases hx : allVals ev captured.toList with
    | none => rw [hx] at h2; cases h2
    | some us =>
     rw [hx] at h2
     rw [h1, allVals_mono (fun x hx u hu => he x (by simp [hx]) u hu) hx, Option.bind_some, show capsOf T us = some caps from h2]
     exact h
   ·cases h
  all_goals cases h
 case slice t x lo hi mx =>
  cases mx with
  | some y => simp only [evalD, hop] at h; cases h
  | none =>
   simp only [evalD, hop] at h ⊢
   have hl : ∀ y, lo = some y → ∀ u, ev y = some u → ev' y = some u := fun y hy u hu => he y (by simp [hy]) u hu
   have hh : ∀ y, hi = some y → ∀ u, ev y = some u → ev' y = some u := fun y hy u hu => he y (by simp [hy]) u hu
   split at h
   ·rename_i e p h0 h1
    rw [h0, he x (by simp) _ h1]
    simp only
    rw [sliceA_eq (hv x (by simp) _ h1)]
    exact sliceA_mono hl hh h
   ·rename_i s h0 h1
    rw [h0, he x (by simp) _ h1]
    simp only
    cases lo with
    | none =>
     cases hi with
     | none => simp only [Option.map_none] at h; cases h
     | some z =>
      simp only [Option.map_none, Option.map_some] at h ⊢
      cases hz : ev z with
      | none => rw [hz] at h; cases h
      | some u => rw [hz] at h; rw [hh z rfl u hz]; exact h
    | some y =>
     cases hi with
     | none =>
      simp only [Option.map_none, Option.map_some] at h ⊢
      cases hy : ev y with
      | none => rw [hy] at h; cases h
      | some u => rw [hy] at h; rw [hl y rfl u hy]; exact h
     | some z =>
      simp only [Option.map_some] at h ⊢
      cases hy : ev y with
      | none => rw [hy] at h; cases h
      | some u =>
       rw [hy] at h
       rw [hl y rfl u hy]
       cases hz : ev z with
       | none =>
        rw [hz] at h
        split at h <;> first | (rename_i h5; cases h5; done) | (cases h; done)
       | some u2 => rw [hz] at h; rw [hh z rfl u2 hz]; exact h
   ·cases h
 case call c =>
  have ha : ∀ x ∈ c.args.toList, x ∈ c.operands.toList := fun x hx => by
   unfold Call.operands
   simp only [Array.toList_append, List.mem_append]
   exact .inr hx
  cases hcal : c.callee with
  | invoke r mth => simp only [evalD, hop, hcal] at h; cases h
  | value fo =>
   simp only [evalD, hop, hcal] at h ⊢
   have hf : fo ∈ c.operands.toList := by
    unfold Call.operands
    rw [hcal]
    simp
   split at h
   case h_2 => cases h
   rename_i _ _ _ f caps d vs h1 h2 h3
   rw [bind_mono (he fo hf) h1, h2, allVals_mono (fun x hx => he x (ha x hx)) h3]
   simp only
   split at h
   case h_2 => cases h
   rename_i s h4
   rw [callA_eq hD hcl]
   ·exact h
   ·intro q hq
    obtain ⟨u, hu, hqu⟩ := sitesA_of hq
    rcases List.mem_append.mp hu with hu | hu
    ·obtain ⟨x, hx, hxu⟩ := allVals_mem h3 u hu
     exact hs x (ha x hx) u hxu q hqu
    ·obtain ⟨cp, hcp, rfl⟩ := List.mem_map.mp hu
     simp only [AV.sites, TV.sites, CV.sites, List.mem_singleton] at hqu
     subst hqu
     cases hfv : ev fo with
     | none => rw [hfv] at h1; cases h1
     | some fv =>
      rw [hfv] at h1
      refine hs fo hf fv hfv cp.1 ?_
      have h1 : fnOf fv = some (f, caps) := h1
      unfold fnOf at h1
      split at h1
      ·split at h1
       ·simp only [Option.some.injEq, Prod.mk.injEq] at h1
        rw [← h1.2] at hcp
        cases hcp
       ·cases h1
      ·simp only [Option.some.injEq, Prod.mk.injEq] at h1
       obtain ⟨_, rfl⟩ := h1
       exact List.mem_map.mpr ⟨cp, hcp, rfl⟩
      ·cases h1
  | builtin b =>
   cases b <;> simp only [evalD, hop, hcal] at h ⊢
   case append =>
    split at h
    case h_2 => cases h
    rename_i _ _ _ t t' d x y h1 h2 h3
    have hx := ha x (by rw [h3]; simp)
    have hy := ha y (by rw [h3]; simp)
    split at h
    case h_2 => cases h
    rename_i _ _ _ _ e p r h4 h5 h6 h7
    rw [h4, h5, he x hx _ h6, he y hy _ h7]
    simp only
    rw [content_eq (hv x hx _ h6), content_eq (hv y hy _ h7)]
    split at h
    case h_2 => cases h
    rename_i _ _ q1 l1 q2 l2 h8 h9
    rw [nmIn_eq (hd d h2)]
    split at h
    ·exact h
    ·rename_i s h10
     have : ∀ q ∈ [s], m'.get q = m.get q := fun q hq => by
      simp at hq; subst hq
      exact hv x hx _ h6 q (by simp [AV.sites, TV.sites, CV.sites])
     rw [hotRows_eq this]
     exact h
    ·cases h
   case copy =>
    split at h
    case h_2 => cases h
    rename_i _ _ _ e e2 x y h1 h2 h3
    have hx := ha x (by rw [h3]; simp)
    have hy := ha y (by rw [h3]; simp)
    split at h
    case h_2 => cases h
    rename_i _ _ s r h6 h7
    rw [he x hx _ h6, he y hy _ h7]
    simp only
    rw [hv x hx _ h6 s (by simp [AV.sites, TV.sites, CV.sites]), content_eq (hv y hy _ h7)]
    exact h
   case len =>
    split at h
    case h_2 => cases h
    rename_i _ x h1
    have hx := ha x (by rw [h1]; simp)
    split at h
    case h_2 => cases h
    rename_i _ p h2
    rw [he x hx _ h2]
    simp only
    rw [lenOf_eq (hv x hx _ h2)]
    exact h
   case max =>
    split at h
    ·rename_i _ k1 n1 k2 n2 h1
     rw [allValues_mono (fun x hx => he x (ha x hx)) h1]
     exact h
    ·rename_i _ vs hno h1
     rw [allValues_mono (fun x hx => he x (ha x hx)) h1]
     simp only
     exact h
    ·cases h
   case min =>
    split at h
    ·rename_i _ k1 n1 k2 n2 h1
     rw [allValues_mono (fun x hx => he x (ha x hx)) h1]
     exact h
    ·rename_i _ vs hno h1
     rw [allValues_mono (fun x hx => he x (ha x hx)) h1]
     simp only
     exact h
    ·cases h
   all_goals cases h
 all_goals cases h
end
end Go.Proofs.YtbbpcbjgekencaaGreatDoor.Ev
end
section
set_option linter.unusedVariables false
set_option linter.unusedSimpArgs false
set_option linter.unusedVariables false
namespace Go.Proofs.YtbbpcbjgekencaaGreatDoor.Ev
open Go Go.RowKit
section
variable {T : Tab} {P : Program} {W : World} {O A : Nat → Prop} {E0 : Env} {E E' : Env} {w w' : World}
theorem forceIf_eq {Γ : Sig} {ω : Type} (mc : MC Γ) (st : St Γ) (K : St Γ → Option ω) : st.forceIf mc K = K st := by
 unfold St.forceIf
 split
 ·rfl
 ·exact force_eq st K
theorem cps_of {S : FuncId → Option (FnS T.Γ)} (hS : ∀ f s, S f = some s → CallOk T P f s) : ∀ f s, S f = some s → CpsOk s.spec := fun f s h => (hS f s h).cps
theorem evalD_some {S : FuncId → Option (FnS T.Γ)} (hS : ∀ f s, S f = some s → CallOk T P f s) {k : Nat} {o : Oper} {ev : Operand → Option (AV T.Γ)} {m : Mem T.Γ} {ω : Type} {K : AV T.Γ → MC T.Γ → Option ω} {r : ω} (h : evalD T P S k o ev m K = some r) :
  ∃ v mc, evalD T P S k o ev m (fun v mc => some (v, mc)) = some (v, mc) ∧ K v mc = some r := by
 rw [evalD_cps (cps_of hS)] at h
 cases hq : evalD T P S k o ev m (fun v mc => some (v, mc)) with
 | none => rw [hq] at h; cases h
 | some p => rw [hq] at h; exact ⟨p.1, p.2, rfl, h⟩
theorem tmp_at {st : St T.Γ} {a : Act} {d : Nat} {v : AV T.Γ} (hR : Rel T W O A E0 E st a w) (h : (st.tmps[d]?).join = some v) : ∃ x, a.tmps[d]? = some x ∧ ConcA T E (SB T W O A E st.mem w) w v x := by
 cases hq : st.tmps[d]? with
 | none => rw [hq] at h; cases h
 | some o =>
  rw [hq] at h
  cases o with
  | none => cases h
  | some u =>
   obtain rfl : u = v := by simpa using h
   exact hR.tmps d u hq
theorem put_same {Γ : Sig} {st : St Γ} {d : Nat} {v : AV Γ} (h : (st.tmps[d]?).join = some v) : st.put (some d) (some v) = st := by
 have : st.tmps.set d (some v) = st.tmps := by
  apply List.ext_getElem?
  intro i
  rw [List.getElem?_set]
  split
  ·rename_i e
   subst e
   cases hq : st.tmps[d]? with
   | none => rw [hq] at h; cases h
   | some o =>
    rw [hq] at h
    have h : o = some v := by simpa using h
    subst h
    rw [if_pos (List.getElem?_eq_some_iff.mp hq).1]
  ·rfl
 show ({ st with tmps := st.tmps.set d (some v) } : St Γ) = st
 rw [this]
def GuardIs {Γ : Sig} (ops : Array Oper) (st : St Γ) (o : Oper) (yes : Bool) : Prop := match o.guard with
 | none => yes = true
 | some (j, want) => ∃ d, (ops[j]?).bind (·.dst) = some d ∧ ((∃ b, (st.tmps[d]?).join = some (.t (.cell (.c (.bool b)))) ∧ yes = (b == want)) ∨ ((st.tmps[d]?).join = some (.tup []) ∧ yes = false))
theorem guard_wanted {ops : Array Oper} {st : St T.Γ} {a : Act} {o : Oper} {yes : Bool} (hR : Rel T W O A E0 E st a w) (h : GuardIs ops st o yes) : Region.wanted o (yielded ops a.tmps) = yes := by
 unfold GuardIs at h
 unfold Region.wanted
 cases hg : o.guard with
 | none => rw [hg] at h; simp only at h; rw [h]
 | some p =>
  obtain ⟨j, want⟩ := p
  rw [hg] at h
  obtain ⟨d, hd, h⟩ := h
  simp only
  rcases h with ⟨b, hb, rfl⟩ | ⟨hb, rfl⟩
  ·obtain ⟨x, hx, hc⟩ := tmp_at hR hb
   obtain rfl : x = .bool b := by
    cases hc with
    | t hc => cases hc with | cell hc => cases hc; rfl
   have hy : yielded ops a.tmps j = some b := by simp [yielded, hd, hx]
   rw [hy]
   cases b <;> cases want <;> rfl
  ·obtain ⟨x, hx, hc⟩ := tmp_at hR hb
   have hy : yielded ops a.tmps j = none := by
    cases hc with
    | tup hl hc => simp [yielded, hd, hx]
   rw [hy]
   rfl
theorem evalOps_sound (hT : TabOk T P) {S : FuncId → Option (FnS T.Γ)} (hS : ∀ f s, S f = some s → CallOk T P f s) (k : Nat) (ops : Array Oper) {ω : Type} :
  ∀ (rest : List Oper) (st : St T.Γ) (K : St T.Γ → Option ω) (r : ω) (E : Env) (a : Act) (w : World) (Q : Exit → Act → World → Prop),
   evalOps T P S k ops.toList rest st K = some r → Rel T W O A E0 E st a w → Good T W O A E0 K r (Q .normal) → wpList P ops Q rest a w := by
 intro rest
 induction rest with
 | nil => intro st K r E a w Q h hR hG; exact hG st E a w h hR
 | cons o rest ih =>
  intro st K r E a w Q h hR hG
  have go : evalOp T P S k o st (fun st => evalOps T P S k ops.toList rest st K) = some r → ∀ N : Act → World → Prop, (∀ a w, wpList P ops Q rest a w → N a w) → o.wp P a w N Q := by
   intro h N hN
   obtain ⟨v, mc, h1, h2⟩ := evalD_some hS h
   split at h2
   ·rename_i st' ha
    rw [forceIf_eq] at h2
    exact op_sound hT hS o W O A E0 k st E a w v mc st' N Q hR h1 ha (fun E' a' w' hR' => hN a' w' (ih st' K r E' a' w' Q h2 hR' hG))
   ·cases h2
  simp only [evalOps] at h
  refine wpList_step fun N hN => ?_
  split at h
  ·rename_i hg
   rw [if_pos (guard_wanted (yes := true) hR (by unfold GuardIs; rw [hg]))]
   exact go h N hN
  ·rename_i j want hg
   split at h
   ·rename_i d hd
    have hd' : (ops[j]?).bind (·.dst) = some d := by rw [← Array.getElem?_toList]; exact hd
    split at h
    ·rename_i b hb
     have hw := guard_wanted (yes := b == want) hR (by unfold GuardIs; rw [hg]; exact ⟨d, hd', .inl ⟨b, hb, rfl⟩⟩)
     rcases br_some h with ⟨e, h⟩ | ⟨e, h⟩
     ·subst e
      rw [put_same hb] at h
      rw [if_pos (by rw [hw]; simp)]
      exact go h N hN
     ·have hbw : (!want) = b := by cases b <;> cases want <;> simp_all
      rw [hbw, put_same hb] at h
      rw [if_neg (by rw [hw]; simp [e])]
      exact hN _ _ (ih _ K r E _ w Q h (put_rel hR undef_conc) hG)
    ·rename_i hb
     have hw := guard_wanted (yes := false) hR (by unfold GuardIs; rw [hg]; exact ⟨d, hd', .inr ⟨hb, rfl⟩⟩)
     rw [if_neg (by rw [hw]; simp)]
     exact hN _ _ (ih _ K r E _ w Q h (put_rel hR undef_conc) hG)
    ·cases h
   ·cases h
end
section
variable {Γ : Sig}
def Eff.ws (e : Eff Γ) : List Nat := match e.mc.sets with
 | [] => []
 | _ => e.mc.writes
def Eff.app (e : Eff Γ) (st : St Γ) : St Γ := ({ st with tmps := forget e.ws st.tmps, mem := st.mem.sets e.mc.sets } : St Γ).put e.o.dst (some e.v)
theorem ws_ne {e : Eff Γ} (h : e.mc.sets ≠ []) : e.ws = e.mc.writes := by
 unfold Eff.ws
 split
 ·exact absurd ‹_› h
 ·rfl
theorem app_apply {st st' : St Γ} {e : Eff Γ} (h : st.apply e.o.dst e.v e.mc = some st') : st' = e.app st := by
 unfold St.apply at h
 split at h
 ·rename_i h0
  simp only [Option.some.injEq] at h
  unfold Eff.app Eff.ws
  rw [h0, ← h]
  simp only [forget_nil, Mem.sets]
 ·rename_i h0
  split at h
  ·simp only [Option.some.injEq] at h
   unfold Eff.app
   rw [ws_ne h0, ← h]
   cases e.o.dst <;> rfl
  ·cases h
theorem app_length (e : Eff Γ) (st : St Γ) : (e.app st).tmps.length = st.tmps.length := by
 unfold Eff.app
 cases e.o.dst with
 | none => exact forget_length _ _
 | some d => show ((forget e.ws st.tmps).set d (some e.v)).length = _; rw [List.length_set, forget_length]
theorem forget_at (ws : List Nat) : ∀ (l : List (Option (AV Γ))) (t : Nat), (forget ws l)[t]? = (l[t]?).map (fun o => o.bind fun v => if meets v.views ws then none else some v) := by
 intro l
 induction l with
 | nil => intro t; rfl
 | cons x r ih =>
  intro t
  cases x with
  | none => cases t <;> simp [forget, ih]
  | some v =>
   cases t with
   | zero =>
    simp only [forget, List.getElem?_cons_zero, Option.map_some, Option.bind_some]
    cases meets v.views ws <;> rfl
   | succ t => simp [forget, ih]
theorem app_tmps (e : Eff Γ) (st : St Γ) (t : Nat) : (e.app st).tmps[t]? = if e.o.dst = some t then (if t < st.tmps.length then some (some e.v) else none) else (st.tmps[t]?).map (fun o => o.bind fun v => if meets v.views e.ws then none else some v) := by
 unfold Eff.app
 cases hd : e.o.dst with
 | none => rw [if_neg (by simp)]; exact forget_at _ _ _
 | some d =>
  show ((forget e.ws st.tmps).set d (some e.v))[t]? = _
  rw [List.getElem?_set, forget_length]
  by_cases h : d = t
  ·subst h; rw [if_pos rfl, if_pos rfl]
  ·rw [if_neg h, if_neg (by simpa using h)]; exact forget_at _ _ _
theorem app_mem (e : Eff Γ) (st : St Γ) : (e.app st).mem = st.mem.sets e.mc.sets := by
 unfold Eff.app
 cases e.o.dst <;> rfl
theorem app_pins (e : Eff Γ) (st : St Γ) : (e.app st).pins = st.pins := by
 unfold Eff.app
 cases e.o.dst <;> rfl
structure St.Eqv (st st' : St Γ) : Prop where
 tmps : st'.tmps = st.tmps
 mem : ∀ s, st'.mem.get s = st.mem.get s
 pins : st'.pins = st.pins
theorem St.Eqv.refl (st : St Γ) : St.Eqv st st := ⟨rfl, fun _ => rfl, rfl⟩
theorem St.Eqv.trans {a b c : St Γ} (h : St.Eqv a b) (k : St.Eqv b c) : St.Eqv a c := ⟨k.tmps.trans h.tmps, fun s => (k.mem s).trans (h.mem s), k.pins.trans h.pins⟩
theorem app_eqv (e : Eff Γ) {st st' : St Γ} (h : St.Eqv st st') : St.Eqv (e.app st) (e.app st') := by
 refine ⟨List.ext_getElem? fun t => ?_, fun s => ?_, ?_⟩
 ·rw [app_tmps, app_tmps, h.tmps]
 ·rw [app_mem, app_mem, get_sets, get_sets, h.mem]
 ·rw [app_pins, app_pins, h.pins]
theorem disj_spec : ∀ {l r : List Nat}, disj l r = true → ∀ s ∈ l, s ∉ r := by
 intro l
 induction l with
 | nil => intro r _ s h; cases h
 | cons x l ih =>
  intro r h s hs
  simp only [disj] at h
  split at h
  ·cases h
  ·rename_i he
   cases hs with
   | head => intro hr; rw [elem_iff.mpr hr] at he; cases he
   | tail _ hs => exact ih h s hs
theorem look_none {l : List (Nat × Option (Blk Γ))} {s : Nat} (h : s ∉ l.map (·.1)) : look l s = none := by
 cases hl : look l s with
 | none => rfl
 | some b => exact absurd (List.mem_map.mpr ⟨_, look_mem hl, rfl⟩) h
theorem ws_writes {e : Eff Γ} {s : Nat} (h : s ∈ e.ws) : s ∈ e.mc.writes := by
 unfold Eff.ws at h
 split at h
 ·cases h
 ·exact h
theorem views_in : ∀ {v : AV Γ} {s : Nat}, s ∈ v.views → s ∈ v.sites := by
 have cell : ∀ {l : List (CV Γ)} {s : Nat}, s ∈ viewsL l → s ∈ sitesL l := by
  intro l
  induction l with
  | nil => intro s h; cases h
  | cons x r ih =>
   intro s h
   simp only [viewsL, sitesL, List.mem_append] at h ⊢
   exact h.imp views_sites ih
 have tv : ∀ {x : TV Γ} {s : Nat}, s ∈ x.views → s ∈ x.sites := by
  intro x s h
  cases x with
  | cell x => exact views_sites h
  | agg l => exact cell h
 have ts : ∀ {l : List (TV Γ)} {s : Nat}, s ∈ viewsT l → s ∈ sitesT l := by
  intro l
  induction l with
  | nil => intro s h; cases h
  | cons x r ih =>
   intro s h
   simp only [viewsT, sitesT, List.mem_append] at h ⊢
   exact h.imp tv ih
 intro v s h
 cases v with
 | t x => exact tv h
 | tup l => exact ts h
theorem meets_true {l ws : List Nat} (h : meets l ws = true) : ∃ s ∈ l, s ∈ ws := by
 induction l with
 | nil => cases h
 | cons x r ih =>
  simp only [meets, Bool.or_eq_true] at h
  rcases h with h | h
  ·exact ⟨x, List.mem_cons_self, elem_iff.mp h⟩
  ·obtain ⟨s, hs, hw⟩ := ih h
   exact ⟨s, List.mem_cons_of_mem _ hs, hw⟩
theorem meets_no {l ws : List Nat} (h : ∀ s ∈ l, s ∉ ws) : meets l ws = false := by
 cases hm : meets l ws with
 | false => rfl
 | true =>
  obtain ⟨s, hs, hw⟩ := meets_true hm
  exact absurd hw (h s hs)
structure Apart (ops : Array Oper) (x y : Eff Γ) : Prop where
 look1 : ∀ d, x.o.dst = some d → d ∉ y.o.looksAt ops
 dst : ∀ d, x.o.dst = some d → y.o.dst ≠ some d
 look2 : ∀ d, y.o.dst = some d → d ∉ x.o.looksAt ops
 keys1 : ∀ s ∈ x.keys, s ∉ y.all ∧ s ∉ y.keys
 keys2 : ∀ s ∈ y.keys, s ∉ x.all
theorem apart_spec {ops : Array Oper} {x y : Eff Γ} (h : Eff.apart ops x y = true) : Apart ops x y := by
 unfold Eff.apart at h
 simp only [Bool.and_eq_true] at h
 obtain ⟨h1, h2, h3⟩ := h
 obtain ⟨a, b, c⟩ := Oper.apart_spec h1
 exact ⟨a, b, c, fun s hs => by have := disj_spec h2 s hs; simp only [List.mem_append, not_or] at this; exact this, fun s hs => disj_spec h3 s hs⟩
theorem Apart.symm {ops : Array Oper} {x y : Eff Γ} (h : Apart ops x y) : Apart ops y x :=
 ⟨h.look2, fun d hy hx => h.dst d hx hy, h.look1, fun s hs => ⟨h.keys2 s hs, fun hx => (h.keys1 s hx).2 hs⟩, fun s hs => (h.keys1 s hs).1⟩
theorem keys_sets {e : Eff Γ} {s : Nat} (h : s ∈ e.mc.sets.map (·.1)) : s ∈ e.keys := List.mem_append_left _ h
theorem keys_news {e : Eff Γ} {s : Nat} (h : s ∈ e.mc.news) : s ∈ e.keys := List.mem_append_right _ (List.mem_append_left _ h)
theorem keys_writes {e : Eff Γ} {s : Nat} (h : s ∈ e.mc.writes) : s ∈ e.keys := List.mem_append_right _ (List.mem_append_right _ h)
theorem all_v {e : Eff Γ} {s : Nat} (h : s ∈ e.v.sites) : s ∈ e.all := List.mem_append_right _ (List.mem_append_left _ h)
theorem all_sets {e : Eff Γ} {s : Nat} (h : s ∈ setsSites e.mc.sets) : s ∈ e.all := List.mem_append_right _ (List.mem_append_right _ h)
theorem all_tch {e : Eff Γ} {s : Nat} (h : s ∈ e.tch) : s ∈ e.all := List.mem_append_left _ h
theorem Apart.comm {ops : Array Oper} {x y : Eff Γ} (h : Apart ops x y) (st : St Γ) : St.Eqv (y.app (x.app st)) (x.app (y.app st)) := by
 have e1 : meets x.v.views y.ws = false := meets_no fun s hs hw => h.keys2 s (keys_writes (ws_writes hw)) (all_v (views_in hs))
 have e2 : meets y.v.views x.ws = false := meets_no fun s hs hw => (h.keys1 s (keys_writes (ws_writes hw))).1 (all_v (views_in hs))
 refine ⟨List.ext_getElem? fun t => ?_, fun s => ?_, ?_⟩
 ·rw [app_tmps, app_tmps, app_tmps, app_tmps, app_length, app_length]
  by_cases hx : x.o.dst = some t
  ·have hy := h.dst t hx
   rw [if_pos hx, if_neg hy, if_pos hx]
   split
   ·simp [e1]
   ·rfl
  ·by_cases hy : y.o.dst = some t
   ·rw [if_neg hx, if_pos hy, if_pos hy]
    split
    ·simp [e2]
    ·rfl
   ·rw [if_neg hx, if_neg hy, if_neg hy, if_neg hx]
    cases st.tmps[t]? with
    | none => rfl
    | some o =>
     cases o with
     | none => rfl
     | some u =>
      simp only [Option.map_some, Option.bind_some]
      by_cases h1 : meets u.views x.ws = true <;> by_cases h2 : meets u.views y.ws = true <;> simp [h1, h2]
 ·rw [app_mem, app_mem, app_mem, app_mem, get_sets, get_sets, get_sets, get_sets]
  by_cases hx : s ∈ x.mc.sets.map (·.1)
  ·rw [look_none (l := y.mc.sets) (fun hy => (h.keys1 s (keys_sets hx)).2 (keys_sets hy))]
  ·rw [look_none hx]
 ·rw [app_pins, app_pins, app_pins, app_pins]
def foldA (l : List (Eff Γ)) (st : St Γ) : St Γ := l.foldl (fun st e => e.app st) st
theorem foldA_eqv (l : List (Eff Γ)) : ∀ {st st' : St Γ}, St.Eqv st st' → St.Eqv (foldA l st) (foldA l st') := by
 induction l with
 | nil => intro st st' h; exact h
 | cons e l ih => intro st st' h; exact ih (app_eqv e h)
theorem foldA_append (l r : List (Eff Γ)) (st : St Γ) : foldA (l ++ r) st = foldA r (foldA l st) := List.foldl_append
theorem foldA_move {ops : Array Oper} (e : Eff Γ) : ∀ (l : List (Eff Γ)) (st : St Γ), (∀ y ∈ l, Apart ops e y) → St.Eqv (e.app (foldA l st)) (foldA l (e.app st)) := by
 intro l
 induction l with
 | nil => intro st _; exact St.Eqv.refl _
 | cons y l ih =>
  intro st h
  exact (ih (y.app st) (fun z hz => h z (List.mem_cons_of_mem _ hz))).trans (foldA_eqv l ((h y List.mem_cons_self).symm.comm st))
theorem foldA_pins (l : List (Eff Γ)) (st : St Γ) : (foldA l st).pins = st.pins := by
 induction l generalizing st with
 | nil => rfl
 | cons e l ih => show (foldA l (e.app st)).pins = _; rw [ih, app_pins]
end
section
variable {T : Tab} {P : Program} {W : World} {O A : Nat → Prop} {E0 : Env} {E : Env} {w : World}
theorem Rel.eqv {st st' : St T.Γ} {a : Act} (hR : Rel T W O A E0 E st a w) (h : St.Eqv st st') : Rel T W O A E0 E st' a w := by
 have ho : ∀ s g, OwnBy E st'.mem s g ↔ OwnBy E st.mem s g := fun s g => by simp only [OwnBy, h.mem]
 have hO : ∀ g, Own E st'.mem g ↔ Own E st.mem g := fun g => by simp only [Own, ho]
 have hB : Stb (fun g => W.heap.size ≤ g ∨ O g) A E st'.mem w = Stb (fun g => W.heap.size ≤ g ∨ O g) A E st.mem w := by
  funext p g
  cases p <;> simp only [Stb, hO, ho]
 refine ⟨hR.defers, by rw [h.tmps]; exact hR.size, fun t v hv => ?_, ⟨fun s b hb => ?_, fun s s' g h1 h2 => hR.mem.apart s s' g ((ho s g).mp h1) ((ho s' g).mp h2)⟩, fun g hg => hR.mine g ((hO g).mp hg), hR.kept, fun x hx => ⟨fun ho => (hR.glob x hx).1 ((hO _).mp ho), (hR.glob x hx).2⟩, h.pins.trans hR.pin.1, hR.pin.2⟩
 ·rw [h.tmps] at hv
  rw [hB]
  exact hR.tmps t v hv
 ·rw [h.mem] at hb
  rw [hB]
  exact hR.mem.blk s b hb
end
end Go.Proofs.YtbbpcbjgekencaaGreatDoor.Ev
end
section
set_option linter.unusedVariables false
set_option linter.unusedSimpArgs false
set_option linter.unusedVariables false
namespace Go.Proofs.YtbbpcbjgekencaaGreatDoor.Ev
open Go Go.RowKit
def stepB (acc : Array Nat) (o : Oper) : Array Nat := acc.push (o.after.foldl (fun s e => if Region.binds .any e then s ||| 2 ^ e.on ||| acc.getD e.on 0 else s) 0)
theorem before_eq (ops : Array Oper) : Region.before ops = ops.toList.foldl stepB #[] := by
 unfold Region.before
 rw [← Array.foldl_toList]
 rfl
theorem foldB_size : ∀ (l : List Oper) (acc : Array Nat), (l.foldl stepB acc).size = acc.size + l.length := by
 intro l
 induction l with
 | nil => intro acc; rfl
 | cons o r ih => intro acc; rw [List.foldl_cons, ih]; simp [stepB]; omega
theorem foldB_keep : ∀ (l : List Oper) (acc : Array Nat) (j : Nat), j < acc.size → (l.foldl stepB acc)[j]? = acc[j]? := by
 intro l
 induction l with
 | nil => intro acc j h; rfl
 | cons o r ih =>
  intro acc j h
  rw [List.foldl_cons, ih _ j (by simp [stepB]; omega)]
  simp only [stepB, Array.getElem?_push]
  rw [if_neg (by omega)]
theorem bits_spec (acc : Array Nat) (x : Nat) : ∀ (l : List Edge) (s : Nat), (l.foldl (fun s e => if Region.binds .any e then s ||| 2 ^ e.on ||| acc.getD e.on 0 else s) s).testBit x = true →
  s.testBit x = true ∨ ∃ e ∈ l, Region.binds .any e = true ∧ (e.on = x ∨ (acc.getD e.on 0).testBit x = true) := by
 intro l
 induction l with
 | nil => intro s h; exact .inl h
 | cons e r ih =>
  intro s h
  rw [List.foldl_cons] at h
  rcases ih _ h with h | ⟨e', he, h⟩
  ·split at h
   ·rename_i hb
    rw [Nat.testBit_or, Nat.testBit_or, Nat.testBit_two_pow] at h
    simp only [Bool.or_eq_true, decide_eq_true_eq] at h
    rcases h with (h | h) | h
    ·exact .inl h
    ·exact .inr ⟨e, List.mem_cons_self, hb, .inl h⟩
    ·exact .inr ⟨e, List.mem_cons_self, hb, .inr h⟩
   ·exact .inl h
  ·exact .inr ⟨e', List.mem_cons_of_mem _ he, h⟩
theorem enumL_get {β : Type} : ∀ (l : List β) (i j : Nat), (enumL i l)[j]? = (l[j]?).map fun x => (i + j, x) := by
 intro l
 induction l with
 | nil => intro i j; simp [enumL]
 | cons x r ih =>
  intro i j
  cases j with
  | zero => simp [enumL]
  | succ j =>
   simp only [enumL, List.getElem?_cons_succ]
   rw [ih]
   cases r[j]? with
   | none => rfl
   | some y => simp; omega
theorem edges_lower {ops : Array Oper} (h : edgesOk ops = true) {y : Nat} {o : Oper} (ho : ops[y]? = some o) {e : Edge} (he : e ∈ o.after) (hb : Region.binds .any e = true) : e.on < y := by
 unfold edgesOk at h
 rw [List.all_eq_true] at h
 have hm : (enumL 0 ops.toList)[y]? = some (y, o) := by rw [enumL_get, Array.getElem?_toList, ho]; simp
 have := h _ (List.mem_of_getElem? hm)
 rw [List.all_eq_true] at this
 have := this e (by simpa using he)
 rw [hb] at this
 simpa using this
theorem before_spec {ops : Array Oper} (he : edgesOk ops = true) {y x : Nat} (h : ((Region.before ops).getD y 0).testBit x = true) :
  ∃ o, ops[y]? = some o ∧ ∃ e ∈ o.after, Region.binds .any e = true ∧ (e.on = x ∨ ((Region.before ops).getD e.on 0).testBit x = true) := by
 have hsz : (Region.before ops).size = ops.size := by rw [before_eq, foldB_size]; simp
 have hlt : y < ops.size := by
  by_cases h1 : y < ops.size
  ·exact h1
  ·rw [Array.getD_eq_getD_getElem?, Array.getElem?_eq_none (by omega)] at h
   simp at h
 have ho : ops[y]? = some ops[y] := Array.getElem?_eq_getElem hlt
 refine ⟨_, ho, ?_⟩
 have hsplit : ops.toList = ops.toList.take y ++ ops[y] :: ops.toList.drop (y + 1) := by
  rw [← Array.getElem_toList, List.getElem_cons_drop, List.take_append_drop]
 have hl : (ops.toList.take y).length = y := by simp; omega
 have key : Region.before ops = (ops.toList.drop (y + 1)).foldl stepB (stepB ((ops.toList.take y).foldl stepB #[]) ops[y]) := by
  rw [before_eq]
  conv => lhs; rw [hsplit]
  rw [List.foldl_append, List.foldl_cons]
 have hs1 : ((ops.toList.take y).foldl stepB #[]).size = y := by rw [foldB_size, hl]; simp
 have hy : (Region.before ops)[y]? = some (ops[y].after.foldl (fun s e => if Region.binds .any e then s ||| 2 ^ e.on ||| ((ops.toList.take y).foldl stepB #[]).getD e.on 0 else s) 0) := by
  rw [key, foldB_keep _ _ _ (by simp [stepB, hs1])]
  simp only [stepB, Array.getElem?_push, hs1, if_pos]
 rw [Array.getD_eq_getD_getElem?, hy] at h
 simp only [Option.getD_some] at h
 rw [← Array.foldl_toList] at h
 rcases bits_spec _ x _ _ h with h | ⟨e, hm, hb, h⟩
 ·simp at h
 ·have hm : e ∈ ops[y].after := by simpa using hm
  refine ⟨e, hm, hb, h.imp_right fun h => ?_⟩
  have hlow := edges_lower he ho hm hb
  rw [Array.getD_eq_getD_getElem?] at h ⊢
  rw [key, foldB_keep _ _ _ (by simp [stepB, hs1]; omega)]
  simp only [stepB, Array.getElem?_push]
  rw [if_neg (by omega)]
  exact h
def DownOk (ops : Array Oper) (listed : Array Bool) : Prop := ∀ j, listed.getD j false = true → ∀ o, ops[j]? = some o → ∀ e ∈ o.after, Region.binds .any e = true → listed.getD e.on false = true
theorem before_listed {ops : Array Oper} (he : edgesOk ops = true) {listed : Array Bool} (hd : DownOk ops listed) : ∀ y, (∀ o, ops[y]? = some o → ∀ e ∈ o.after, Region.binds .any e = true → listed.getD e.on false = true) →
  ∀ x, ((Region.before ops).getD y 0).testBit x = true → listed.getD x false = true := by
 intro y
 induction y using Nat.strongRecOn with
 | _ y ih =>
  intro h x hx
  obtain ⟨o, ho, e, hm, hb, hx⟩ := before_spec he hx
  have h1 := h o ho e hm hb
  rcases hx with rfl | hx
  ·exact h1
  ·exact ih e.on (edges_lower he ho hm hb) (fun o' ho' => hd e.on h1 o' ho') x hx
section
variable {T : Tab} {P : Program}
def Does (P : Program) (S : FuncId → Option (FnS T.Γ)) (k : Nat) (ops : Array Oper) (st : St T.Γ) (e : Eff T.Γ) : Prop :=
 (GuardIs ops st e.o true ∧ evalD T P S k e.o st.eval st.mem (fun v mc => some (v, mc)) = some (e.v, e.mc) ∧ (∃ st', st.apply e.o.dst e.v e.mc = some st') ∧ ∃ rch, reach st.mem 1000 (opSites st.eval e.o.op.operands.toList) [] = some rch ∧ e.tch = dstNm e.o ++ rch) ∨
 (GuardIs ops st e.o false ∧ e.v = .tup [] ∧ e.mc = .no)
inductive Trace (P : Program) (S : FuncId → Option (FnS T.Γ)) (k : Nat) (ops : Array Oper) (b : Array Nat) (st0 : St T.Γ) : List (Nat × Oper) → List (Eff T.Γ) → St T.Γ → List (Eff T.Γ) → Prop
 | nil (recs st) : Trace P S k ops b st0 [] recs st []
 | cons {r recs st} (e : Eff T.Γ) {es} (hd : Does P S k ops st e) (h3 : effOk st0 e.mc = true) (hp : pairOk ops b e recs = true) (t : Trace P S k ops b st0 r (e :: recs) (e.app st) es) : Trace P S k ops b st0 ((e.i, e.o) :: r) recs st (e :: es)
theorem meets_nil (l : List Nat) : meets l [] = false := by
 induction l with
 | nil => rfl
 | cons x r ih => simpa [meets] using ih
theorem app_no {st : St T.Γ} (i : Nat) (o : Oper) (v : AV T.Γ) (tch : List Nat) : (⟨i, o, v, .no, tch⟩ : Eff T.Γ).app st = st.put o.dst (some v) := by
 unfold Eff.app Eff.ws
 simp only [MC.no, forget_nil, Mem.sets]
theorem evalAny_trace {S : FuncId → Option (FnS T.Γ)} (hS : ∀ f s, S f = some s → CallOk T P f s) {k : Nat} {ops : Array Oper} {b : Array Nat} {st0 : St T.Γ} {ω : Type} {K : St T.Γ → Option ω} {r : ω} : ∀ (l : List (Nat × Oper)) (recs : List (Eff T.Γ)) (st : St T.Γ),
  evalAny T P S k ops b st0 l recs st K = some r → ∃ es, Trace P S k ops b st0 l recs st es ∧ K (foldA es st) = some r := by
 intro l
 induction l with
 | nil => intro recs st h; exact ⟨[], .nil _ _, h⟩
 | cons p l ih =>
  obtain ⟨i, o⟩ := p
  intro recs st h
  have go : GuardIs ops st o true → (match reach st.mem 1000 (opSites st.eval o.op.operands.toList) [] with
   | some tch => evalD T P S k o st.eval st.mem fun v mc => match st.apply o.dst v mc with
    | some st => match effOk st0 mc && pairOk ops b ⟨i, o, v, mc, dstNm o ++ tch⟩ recs with
     | true => st.forceIf mc fun st => evalAny T P S k ops b st0 l (⟨i, o, v, mc, dstNm o ++ tch⟩ :: recs) st K
     | false => none
    | none => none
   | none => none) = some r → ∃ es, Trace P S k ops b st0 ((i, o) :: l) recs st es ∧ K (foldA es st) = some r := by
   intro hg h
   split at h
   ·rename_i tch ht
    obtain ⟨v, mc, h1, h2⟩ := evalD_some hS h
    split at h2
    ·rename_i st' ha
     split at h2
     ·rename_i hc
      rw [forceIf_eq] at h2
      simp only [Bool.and_eq_true] at hc
      have e := app_apply (e := ⟨i, o, v, mc, dstNm o ++ tch⟩) ha
      rw [e] at h2
      obtain ⟨es, h3, h4⟩ := ih _ _ h2
      exact ⟨_ :: es, .cons ⟨i, o, v, mc, dstNm o ++ tch⟩ (.inl ⟨hg, h1, ⟨st', ha⟩, tch, ht, rfl⟩) hc.1 hc.2 h3, h4⟩
     ·cases h2
    ·cases h2
   ·cases h
  have no : GuardIs ops st o false → (match pairOk ops b ⟨i, o, .tup [], .no, []⟩ recs with
   | true => evalAny T P S k ops b st0 l (⟨i, o, .tup [], .no, []⟩ :: recs) (st.put o.dst (some (.tup []))) K
   | false => none) = some r → ∃ es, Trace P S k ops b st0 ((i, o) :: l) recs st es ∧ K (foldA es st) = some r := by
   intro hg h
   split at h
   ·rename_i hc
    rw [← app_no i o (.tup []) []] at h
    obtain ⟨es, h3, h4⟩ := ih _ _ h
    exact ⟨_ :: es, .cons ⟨i, o, .tup [], .no, []⟩ (.inr ⟨hg, rfl, rfl⟩) (by simp [effOk, MC.no, St.freeAll, meets_nil]) hc h3, h4⟩
   ·cases h
  simp only [evalAny] at h
  split at h
  ·rename_i hg
   exact go (by unfold GuardIs; rw [hg]) h
  ·rename_i j want hg
   split at h
   ·rename_i d hd
    split at h
    ·rename_i bb hb
     rcases br_some h with ⟨e, h⟩ | ⟨e, h⟩
     ·subst e
      rw [put_same hb] at h
      exact go (by unfold GuardIs; rw [hg]; exact ⟨d, hd, .inl ⟨bb, hb, by simp⟩⟩) h
     ·have hbw : (!want) = bb := by cases bb <;> cases want <;> simp_all
      rw [hbw, put_same hb] at h
      exact no (by unfold GuardIs; rw [hg]; exact ⟨d, hd, .inl ⟨bb, hb, by simp [e]⟩⟩) h
    ·rename_i hb
     exact no (by unfold GuardIs; rw [hg]; exact ⟨d, hd, .inr ⟨hb, rfl⟩⟩) h
    ·cases h
   ·cases h
structure PairC {Γ : Sig} (ops : Array Oper) (b : Array Nat) (x y : Eff Γ) : Prop where
 news : ∀ s ∈ y.mc.news, s ∉ x.all ∧ s ∉ x.keys
 views : ∀ s ∈ setsViews x.mc.sets, s ∉ y.mc.writes
 order : (b.getD y.i 0).testBit x.i = true ∨ Apart ops x y
theorem pairOk_spec {Γ : Sig} {ops : Array Oper} {b : Array Nat} {y : Eff Γ} : ∀ {l : List (Eff Γ)}, pairOk ops b y l = true → ∀ x ∈ l, PairC ops b x y := by
 intro l
 induction l with
 | nil => intro _ x h; cases h
 | cons z l ih =>
  intro h x hx
  simp only [pairOk] at h
  split at h
  ·rename_i hc
   simp only [Bool.and_eq_true, Bool.or_eq_true, Bool.not_eq_true'] at hc
   cases hx with
   | head => exact ⟨fun s hs => by have := disj_spec hc.1.1 s hs; simp only [List.mem_append, not_or] at this; exact this, fun s hs => meets_false hc.1.2 s hs, hc.2.imp_right apart_spec⟩
   | tail _ hx => exact ih h x hx
  ·cases h
theorem Trace.facts {S : FuncId → Option (FnS T.Γ)} {k : Nat} {ops : Array Oper} {b : Array Nat} {st0 : St T.Γ} {l : List (Nat × Oper)} {recs es : List (Eff T.Γ)} {st : St T.Γ} (h : Trace P S k ops b st0 l recs st es) :
  es.map (fun e => (e.i, e.o)) = l ∧ ∀ l1 e l2, es = l1 ++ e :: l2 → Does P S k ops (foldA l1 st) e ∧ effOk st0 e.mc = true ∧ ∀ x, x ∈ recs ∨ x ∈ l1 → PairC ops b x e := by
 induction h with
 | nil recs st => exact ⟨rfl, fun l1 e l2 h => by cases l1 <;> cases h⟩
 | @cons r recs st e es hd h3 hp t ih =>
  refine ⟨by rw [List.map_cons, ih.1], fun l1 e' l2 he => ?_⟩
  cases l1 with
  | nil =>
   simp only [List.nil_append, List.cons.injEq] at he
   obtain ⟨rfl, rfl⟩ := he
   exact ⟨hd, h3, fun x hx => pairOk_spec hp x (hx.resolve_right (by simp))⟩
  | cons z l1 =>
   simp only [List.cons_append, List.cons.injEq] at he
   obtain ⟨rfl, rfl⟩ := he
   obtain ⟨h1, h2, h4⟩ := ih.2 l1 e' l2 rfl
   refine ⟨h1, h2, fun x hx => h4 x ?_⟩
   rcases hx with hx | hx
   ·exact .inl (List.mem_cons_of_mem _ hx)
   ·cases hx with
    | head => exact .inl List.mem_cons_self
    | tail _ hx => exact .inr hx
def sel {Γ : Sig} (listed : Array Bool) (l : List (Eff Γ)) : List (Eff Γ) := l.filter fun e => listed.getD e.i false
theorem keepA {Γ : Sig} {listed : Array Bool} {t : Nat} : ∀ (l : List (Eff Γ)) (s s' : St Γ), s.tmps.length = s'.tmps.length → (∀ u, s.tmps[t]? = some (some u) → s'.tmps[t]? = some (some u)) → (∀ y ∈ l, listed.getD y.i false = false → y.o.dst ≠ some t) →
  ∀ u, (foldA l s).tmps[t]? = some (some u) → (foldA (sel listed l) s').tmps[t]? = some (some u) := by
 intro l
 induction l with
 | nil => intro s s' _ hq _; exact hq
 | cons y l ih =>
  intro s s' hlen hq hd
  have hd' := fun z hz => hd z (List.mem_cons_of_mem y hz)
  have inv : ∀ u, (y.app s).tmps[t]? = some (some u) → y.o.dst ≠ some t → s.tmps[t]? = some (some u) ∧ meets u.views y.ws = false := by
   intro u hu hne
   rw [app_tmps, if_neg hne] at hu
   cases hs : s.tmps[t]? with
   | none => rw [hs] at hu; cases hu
   | some o =>
    rw [hs] at hu
    cases o with
    | none => cases hu
    | some u' =>
     simp only [Option.map_some, Option.bind_some, Option.some.injEq] at hu
     split at hu
     ·cases hu
     ·rename_i hm
      simp only [Option.some.injEq] at hu
      subst hu
      exact ⟨rfl, by simpa using hm⟩
  cases hy : listed.getD y.i false with
  | true =>
   have : sel listed (y :: l) = y :: sel listed l := by
    unfold sel
    rw [List.filter_cons_of_pos (by exact hy)]
   rw [this]
   refine ih (y.app s) (y.app s') (by rw [app_length, app_length, hlen]) (fun u hu => ?_) hd'
   by_cases he : y.o.dst = some t
   ·rw [app_tmps, if_pos he] at hu ⊢
    rw [← hlen]
    exact hu
   ·obtain ⟨h1, h2⟩ := inv u hu he
    rw [app_tmps, if_neg he, hq u h1]
    simp [h2]
  | false =>
   have : sel listed (y :: l) = sel listed l := by
    unfold sel
    rw [List.filter_cons_of_neg (by rw [hy]; simp)]
   rw [this]
   exact ih (y.app s) s' (by rw [app_length, hlen]) (fun u hu => hq u (inv u hu (hd y List.mem_cons_self hy)).1) hd'
theorem keepAM {Γ : Sig} {listed : Array Bool} {q : Nat} : ∀ (l : List (Eff Γ)) (s s' : St Γ), s'.mem.get q = s.mem.get q → (∀ y ∈ l, listed.getD y.i false = false → q ∉ y.keys) → (foldA (sel listed l) s').mem.get q = (foldA l s).mem.get q := by
 intro l
 induction l with
 | nil => intro s s' h _; exact h
 | cons y l ih =>
  intro s s' hq hd
  have hd' := fun z hz => hd z (List.mem_cons_of_mem y hz)
  cases hy : listed.getD y.i false with
  | true =>
   have : sel listed (y :: l) = y :: sel listed l := by
    unfold sel
    rw [List.filter_cons_of_pos (by exact hy)]
   rw [this]
   exact ih (y.app s) (y.app s') (by rw [app_mem, app_mem, get_sets, get_sets, hq]) hd'
  | false =>
   have : sel listed (y :: l) = sel listed l := by
    unfold sel
    rw [List.filter_cons_of_neg (by rw [hy]; simp)]
   rw [this]
   refine ih (y.app s) s' ?_ hd'
   rw [app_mem, get_sets, look_none (fun h => hd y List.mem_cons_self hy (keys_sets h))]
   exact hq
theorem keepB {Γ : Sig} {t : Nat} {u : AV Γ} : ∀ (l : List (Eff Γ)) (s : St Γ), s.tmps[t]? = some (some u) → (∀ y ∈ l, y.o.dst ≠ some t ∧ meets u.views y.ws = false) → (foldA l s).tmps[t]? = some (some u) := by
 intro l
 induction l with
 | nil => intro s h _; exact h
 | cons y l ih =>
  intro s h hd
  refine ih (y.app s) ?_ (fun z hz => hd z (List.mem_cons_of_mem y hz))
  obtain ⟨h1, h2⟩ := hd y List.mem_cons_self
  rw [app_tmps, if_neg h1, h]
  simp [h2]
theorem keepBM {Γ : Sig} {q : Nat} : ∀ (l : List (Eff Γ)) (s : St Γ), (∀ y ∈ l, q ∉ y.keys) → (foldA l s).mem.get q = s.mem.get q := by
 intro l
 induction l with
 | nil => intro s _; rfl
 | cons y l ih =>
  intro s hd
  show (foldA l (y.app s)).mem.get q = _
  rw [ih _ (fun z hz => hd z (List.mem_cons_of_mem y hz)), app_mem, get_sets, look_none (fun h => hd y List.mem_cons_self (keys_sets h))]
theorem upd_mem {Γ : Sig} {s : Nat} {b : Option (Blk Γ)} : ∀ {m : Mem Γ} {p : Nat × Blk Γ}, p ∈ m.upd s b → p ∈ m ∨ (p.1, some p.2) = (s, b) := by
 intro m
 induction m with
 | nil =>
  intro p h
  cases b with
  | none => cases h
  | some b => simp only [Mem.upd, List.mem_singleton] at h; subst h; exact .inr rfl
 | cons q r ih =>
  obtain ⟨q, x⟩ := q
  intro p h
  simp only [Mem.upd] at h
  cases hq : (q == s) with
  | true =>
   have hqs := beq_iff_eq.mp hq
   rw [hq] at h
   cases b with
   | none => exact (ih h).imp_left (List.mem_cons_of_mem _)
   | some b =>
    simp only [List.mem_cons] at h
    rcases h with h | h
    ·subst h; rw [hqs]; exact .inr rfl
    ·exact .inl (List.mem_cons_of_mem _ h)
  | false =>
   rw [hq] at h
   cases b with
   | none =>
    simp only [List.mem_cons] at h
    rcases h with h | h
    ·subst h; exact .inl List.mem_cons_self
    ·exact (ih h).imp_left (List.mem_cons_of_mem _)
   | some b =>
    simp only at h
    split at h
    ·simp only [List.mem_cons] at h
     rcases h with h | h | h
     ·subst h; exact .inr rfl
     ·subst h; exact .inl List.mem_cons_self
     ·exact .inl (List.mem_cons_of_mem _ h)
    ·simp only [List.mem_cons] at h
     rcases h with h | h
     ·subst h; exact .inl List.mem_cons_self
     ·exact (ih h).imp_left (List.mem_cons_of_mem _)
theorem sets_mem {Γ : Sig} {m : Mem Γ} : ∀ {l : List (Nat × Option (Blk Γ))} {p : Nat × Blk Γ}, p ∈ m.sets l → p ∈ m ∨ (p.1, some p.2) ∈ l := by
 intro l
 induction l with
 | nil => intro p h; exact .inl h
 | cons x r ih =>
  obtain ⟨s, b⟩ := x
  intro p h
  simp only [Mem.sets] at h
  rcases upd_mem h with h | h
  ·exact (ih h).imp_right (List.mem_cons_of_mem _)
  ·exact .inr (by rw [h]; exact List.mem_cons_self)
theorem fold_mem {Γ : Sig} : ∀ {l : List (Eff Γ)} {st : St Γ} {p : Nat × Blk Γ}, p ∈ (foldA l st).mem → p ∈ st.mem ∨ ∃ y ∈ l, (p.1, some p.2) ∈ y.mc.sets := by
 intro l
 induction l with
 | nil => intro st p h; exact .inl h
 | cons y l ih =>
  intro st p h
  rcases ih (st := y.app st) h with h | ⟨z, hz, h⟩
  ·rw [app_mem] at h
   exact (sets_mem h).imp_right fun h => ⟨y, List.mem_cons_self, h⟩
  ·exact .inr ⟨z, List.mem_cons_of_mem _ hz, h⟩
theorem fold_tmps {Γ : Sig} : ∀ {l : List (Eff Γ)} {st : St Γ} {t : Nat} {v : AV Γ}, (foldA l st).tmps[t]? = some (some v) → st.tmps[t]? = some (some v) ∨ ∃ y ∈ l, v = y.v := by
 intro l
 induction l with
 | nil => intro st t v h; exact .inl h
 | cons y l ih =>
  intro st t v h
  rcases ih (st := y.app st) h with h | ⟨z, hz, h⟩
  ·rw [app_tmps] at h
   split at h
   ·split at h
    ·simp only [Option.some.injEq] at h; exact .inr ⟨y, List.mem_cons_self, h.symm⟩
    ·cases h
   ·cases hs : st.tmps[t]? with
    | none => rw [hs] at h; cases h
    | some o =>
     rw [hs] at h
     cases o with
     | none => cases h
     | some u =>
      simp only [Option.map_some, Option.bind_some, Option.some.injEq] at h
      split at h
      ·cases h
      ·exact .inl (by simpa using h)
  ·exact .inr ⟨z, List.mem_cons_of_mem _ hz, h⟩
theorem setsSites_mem {Γ : Sig} : ∀ {l : List (Nat × Option (Blk Γ))} {q : Nat} {b : Blk Γ}, (q, some b) ∈ l → ∀ s ∈ b.sites, s ∈ setsSites l := by
 intro l
 induction l with
 | nil => intro q b h; cases h
 | cons x r ih =>
  obtain ⟨s, o⟩ := x
  intro q b h t ht
  cases h with
  | head => simp only [setsSites, List.mem_append]; exact .inl ht
  | tail _ h =>
   have := ih h t ht
   cases o with
   | none => exact this
   | some b' => simp only [setsSites, List.mem_append]; exact .inr this
theorem setsViews_mem {Γ : Sig} : ∀ {l : List (Nat × Option (Blk Γ))} {q : Nat} {b : Blk Γ}, (q, some b) ∈ l → ∀ s ∈ b.views, s ∈ setsViews l := by
 intro l
 induction l with
 | nil => intro q b h; cases h
 | cons x r ih =>
  obtain ⟨s, o⟩ := x
  intro q b h t ht
  cases h with
  | head => simp only [setsViews, List.mem_append]; exact .inl ht
  | tail _ h =>
   have := ih h t ht
   cases o with
   | none => exact this
   | some b' => simp only [setsViews, List.mem_append]; exact .inr this
theorem views_sitesB {Γ : Sig} {b : Blk Γ} {s : Nat} (h : s ∈ b.views) : s ∈ b.sites := by
 cases b with
 | box t cs =>
  have : ∀ {l : List (CV Γ)}, s ∈ viewsL l → s ∈ sitesL l := by
   intro l
   induction l with
   | nil => intro h; cases h
   | cons x r ih =>
    intro h
    simp only [viewsL, sitesL, List.mem_append] at h ⊢
    exact h.imp views_sites ih
  exact this h
 | _ => cases h
theorem memViews_in {Γ : Sig} : ∀ {m : Mem Γ} {s : Nat}, s ∈ memViews m → ∃ p ∈ m, s ∈ p.2.views := by
 intro m
 induction m with
 | nil => intro s h; cases h
 | cons p r ih =>
  obtain ⟨q, b⟩ := p
  intro s h
  simp only [memViews, List.mem_append] at h
  rcases h with h | h
  ·exact ⟨(q, b), List.mem_cons_self, h⟩
  ·obtain ⟨p, hp, h⟩ := ih h
   exact ⟨p, List.mem_cons_of_mem _ hp, h⟩
theorem memViews_of {Γ : Sig} : ∀ {m : Mem Γ} {p : Nat × Blk Γ}, p ∈ m → ∀ s ∈ p.2.views, s ∈ memViews m := by
 intro m
 induction m with
 | nil => intro p h; cases h
 | cons x r ih =>
  obtain ⟨q, b⟩ := x
  intro p h s hs
  simp only [memViews, List.mem_append]
  cases h with
  | head => exact .inl hs
  | tail _ h => exact .inr (ih h s hs)
theorem opSites_mem {Γ : Sig} {ev : Operand → Option (AV Γ)} : ∀ {xs : List Operand} {x : Operand} {u : AV Γ}, x ∈ xs → ev x = some u → ∀ s ∈ u.sites, s ∈ opSites ev xs := by
 intro xs
 induction xs with
 | nil => intro x u h; cases h
 | cons y r ih =>
  intro x u h hu s hs
  simp only [opSites]
  cases h with
  | head => rw [hu]; exact List.mem_append_left _ hs
  | tail _ h =>
   have := ih h hu s hs
   cases ev y with
   | none => exact this
   | some v => exact List.mem_append_right _ this
end
end Go.Proofs.YtbbpcbjgekencaaGreatDoor.Ev
end
