import Derived.Test.YtbbpcbjgekencaaGreatDoorM1
import Derived.ArgAppend
import Derived.BigQuiet
import Derived.Deep.AppendLies
import Derived.Deep.CutBlock
import Derived.Deep.DeepCutAuto
import Derived.Deep.Draws
import Derived.Deep.LoopGhost
import Derived.Deep.OwnRows
import Derived.Deep.QuietTactic
import Derived.Deep.RegionHeld3
import Derived.KernelRfl
import Derived.Laws.BitsLemmas
import Derived.Laws.BytesArg
import Derived.Laws.IdiomCopy
import Derived.Laws.OwnMore
import Derived.Laws.Rows
import Derived.Laws.Slices
import Derived.Lib.AppendStr
import Derived.Lib.ConvBytes
import Derived.Maps.AppendAt
import Derived.OrdersHeld
import Derived.OwnWalk
import Derived.RowKit
import Derived.RowKit3
import Derived.Test.YtbbpcbjgekencaaGreatDoorProg
import Derived.WalkKit
import Derived.WideLaws
section
set_option linter.unusedVariables false
set_option linter.unusedSimpArgs false
set_option linter.unusedVariables false
namespace Go.Proofs.YtbbpcbjgekencaaGreatDoor.Ev
open Go Go.RowKit
section
variable {T : Tab} {P : Program} {W : World} {O A : Nat → Prop} {E0 : Env} {S : FuncId → Option (FnS T.Γ)} {k : Nat} {ops : Array Oper} {st0 : St T.Γ} {effs : List (Eff T.Γ)}
structure RunOk (P : Program) (S : FuncId → Option (FnS T.Γ)) (k : Nat) (ops : Array Oper) (st0 : St T.Γ) (effs : List (Eff T.Γ)) : Prop where
 edges : edgesOk ops = true
 len : effs.length = ops.size
 at_ : ∀ (j : Nat) e, effs[j]? = some e → e.i = j ∧ ops[j]? = some e.o
 does : ∀ l1 e l2, effs = l1 ++ e :: l2 → Does P S k ops (foldA l1 st0) e ∧ effOk st0 e.mc = true ∧ ∀ x ∈ l1, PairC ops (Region.before ops) x e
theorem runOk_of (he : edgesOk ops = true) (h : Trace P S k ops (Region.before ops) st0 (enumL 0 ops.toList) [] st0 effs) : RunOk P S k ops st0 effs := by
 obtain ⟨h1, h2⟩ := h.facts
 refine ⟨he, ?_, fun j e hj => ?_, fun l1 e l2 hl => ?_⟩
 ·have h3 : ∀ (l : List Oper) (i : Nat), (enumL i l).length = l.length := by
   intro l
   induction l with
   | nil => intro i; rfl
   | cons x r ih => intro i; simp [enumL, ih]
  have := congrArg List.length h1
  rw [List.length_map, h3] at this
  simpa using this
 ·have := congrArg (fun l => l[j]?) h1
  simp only [List.getElem?_map, enumL_get, hj, Option.map_some] at this
  cases ho : ops.toList[j]? with
  | none => rw [ho] at this; cases this
  | some o =>
   rw [ho] at this
   simp only [Option.map_some, Option.some.injEq, Prod.mk.injEq] at this
   rw [Array.getElem?_toList] at ho
   rw [ho]
   exact ⟨by omega, by rw [this.2]⟩
 ·obtain ⟨h3, h4, h5⟩ := h2 l1 e l2 hl
  exact ⟨h3, h4, fun x hx => h5 x (.inr hx)⟩
section
variable (h : RunOk P S k ops st0 effs)
include h
omit h in
theorem split_at {i : Nat} {e : Eff T.Γ} (he : effs[i]? = some e) : effs = effs.take i ++ e :: effs.drop (i + 1) := by
 obtain ⟨hlt, rfl⟩ := List.getElem?_eq_some_iff.mp he
 rw [List.getElem_cons_drop, List.take_append_drop]
theorem RunOk.inTake {i : Nat} {y : Eff T.Γ} (hy : y ∈ effs.take i) : y.i < i := by
 obtain ⟨j, hj, rfl⟩ := List.getElem_of_mem hy
 rw [List.length_take] at hj
 rw [List.getElem_take]
 have := (h.at_ j _ (List.getElem?_eq_getElem (by omega))).1
 omega
theorem RunOk.inDrop {i : Nat} {y : Eff T.Γ} (hy : y ∈ effs.drop (i + 1)) : i < y.i ∧ effs[y.i]? = some y := by
 obtain ⟨j, hj, rfl⟩ := List.getElem_of_mem hy
 rw [List.length_drop] at hj
 rw [List.getElem_drop]
 have h1 : effs[i + 1 + j]? = some effs[i + 1 + j] := List.getElem?_eq_getElem (by omega)
 have := (h.at_ _ _ h1).1
 rw [this]
 exact ⟨by omega, h1⟩
theorem RunOk.apart {listed : Array Bool} (hd : DownOk ops listed) {i : Nat} {e : Eff T.Γ} (he : effs[i]? = some e) (hun : listed.getD i false = false) (hr : ∀ o, ops[i]? = some o → ∀ e ∈ o.after, Region.binds .any e = true → listed.getD e.on false = true) :
  (∀ y ∈ effs.take i, listed.getD y.i false = false → Apart ops y e) ∧ ∀ y ∈ effs.drop (i + 1), listed.getD y.i false = true → Apart ops e y := by
 have hi := (h.at_ i e he).1
 refine ⟨fun y hy hn => ?_, fun y hy hl => ?_⟩
 ·obtain ⟨_, _, hp⟩ := h.does _ e _ (split_at he)
  rcases (hp y hy).order with hb | hb
  ·rw [hi] at hb
   have := before_listed h.edges hd i hr y.i hb
   rw [this] at hn
   cases hn
  ·exact hb
 ·obtain ⟨hlt, hy2⟩ := h.inDrop hy
  obtain ⟨_, _, hp⟩ := h.does _ y _ (split_at hy2)
  have hmem : e ∈ effs.take y.i := by
   have : (effs.take y.i)[i]? = some e := by rw [List.getElem?_take, if_pos hlt]; exact he
   exact List.mem_of_getElem? this
  rcases (hp e hmem).order with hb | hb
  ·have := before_listed h.edges hd y.i (fun o ho => hd y.i hl o ho) e.i hb
   rw [hi] at this
   rw [this] at hun
   cases hun
  ·exact hb
theorem RunOk.selSplit {listed : Array Bool} {i : Nat} {e : Eff T.Γ} (he : effs[i]? = some e) (hun : listed.getD i false = false) : sel listed effs = sel listed (effs.take i) ++ sel listed (effs.drop (i + 1)) := by
 have hi := (h.at_ i e he).1
 conv => lhs; rw [split_at he]
 unfold sel
 rw [List.filter_append, List.filter_cons_of_neg (by rw [hi, hun]; simp)]
theorem RunOk.selSet {listed : Array Bool} (hsz : listed.size = ops.size) {i : Nat} {e : Eff T.Γ} (he : effs[i]? = some e) : sel (listed.setIfInBounds i true) effs = sel listed (effs.take i) ++ e :: sel listed (effs.drop (i + 1)) := by
 have hi := (h.at_ i e he).1
 have hlt : i < listed.size := by rw [hsz, ← h.len]; exact (List.getElem?_eq_some_iff.mp he).1
 conv => lhs; rw [split_at he]
 unfold sel
 rw [List.filter_append, List.filter_cons_of_pos (by rw [hi]; simp [hlt])]
 congr 1
 ·refine List.filter_congr fun y hy => ?_
  have := h.inTake hy
  rw [getD_set_ne false (by omega)]
 ·congr 1
  refine List.filter_congr fun y hy => ?_
  have := (h.inDrop hy).1
  rw [getD_set_ne false (by omega)]
theorem RunOk.next {listed : Array Bool} (hsz : listed.size = ops.size) (hd : DownOk ops listed) {i : Nat} {e : Eff T.Γ} (he : effs[i]? = some e) (hun : listed.getD i false = false) (hr : ∀ o, ops[i]? = some o → ∀ e ∈ o.after, Region.binds .any e = true → listed.getD e.on false = true) :
  St.Eqv (e.app (foldA (sel listed effs) st0)) (foldA (sel (listed.setIfInBounds i true) effs) st0) := by
 rw [h.selSplit he hun, h.selSet hsz he, foldA_append, foldA_append]
 exact foldA_move e _ _ (fun y hy => by
  have hy := List.mem_filter.mp hy
  exact (h.apart hd he hun hr).2 y hy.1 hy.2)
theorem RunOk.tmp {listed : Array Bool} (hd : DownOk ops listed) {i : Nat} {e : Eff T.Γ} (he : effs[i]? = some e) (hun : listed.getD i false = false) (hr : ∀ o, ops[i]? = some o → ∀ e ∈ o.after, Region.binds .any e = true → listed.getD e.on false = true)
  {t : Nat} (ht : t ∈ e.o.looksAt ops) {u : AV T.Γ} (hv : ∀ s ∈ u.views, s ∈ e.all) (hu : (foldA (effs.take i) st0).tmps[t]? = some (some u)) : (foldA (sel listed effs) st0).tmps[t]? = some (some u) := by
 obtain ⟨ha, hb⟩ := h.apart hd he hun hr
 rw [h.selSplit he hun, foldA_append]
 refine keepB _ _ (keepA _ st0 st0 rfl (fun u hu => hu) (fun y hy hn hdst => ?_) u hu) (fun y hy => ⟨fun hdst => ?_, meets_no fun s hs hw => ?_⟩)
 ·exact (ha y hy hn).look1 t hdst ht
 ·have hy := List.mem_filter.mp hy
  exact (hb y hy.1 hy.2).look2 t hdst ht
 ·have hy := List.mem_filter.mp hy
  exact (hb y hy.1 hy.2).keys2 s (keys_writes (ws_writes hw)) (hv s hs)
theorem RunOk.mem {listed : Array Bool} (hd : DownOk ops listed) {i : Nat} {e : Eff T.Γ} (he : effs[i]? = some e) (hun : listed.getD i false = false) (hr : ∀ o, ops[i]? = some o → ∀ e ∈ o.after, Region.binds .any e = true → listed.getD e.on false = true)
  {s : Nat} (hs : s ∈ e.all) : (foldA (sel listed effs) st0).mem.get s = (foldA (effs.take i) st0).mem.get s := by
 obtain ⟨ha, hb⟩ := h.apart hd he hun hr
 rw [h.selSplit he hun, foldA_append, keepBM _ _ (fun y hy hk => by
  have hy := List.mem_filter.mp hy
  exact (hb y hy.1 hy.2).keys2 s hk hs)]
 exact keepAM _ st0 st0 rfl (fun y hy hn hk => ((ha y hy hn).keys1 s hk).1 hs)
theorem RunOk.guard {listed : Array Bool} (hd : DownOk ops listed) {i : Nat} {e : Eff T.Γ} (he : effs[i]? = some e) (hun : listed.getD i false = false) (hr : ∀ o, ops[i]? = some o → ∀ e ∈ o.after, Region.binds .any e = true → listed.getD e.on false = true)
  {yes : Bool} (hg : GuardIs ops (foldA (effs.take i) st0) e.o yes) : GuardIs ops (foldA (sel listed effs) st0) e.o yes := by
 unfold GuardIs at hg ⊢
 cases hgd : e.o.guard with
 | none => rw [hgd] at hg; exact hg
 | some p =>
  obtain ⟨j, want⟩ := p
  rw [hgd] at hg
  obtain ⟨d, hd', hg⟩ := hg
  have hlook : d ∈ e.o.looksAt ops := by
   unfold Oper.looksAt
   rw [hgd]
   refine List.mem_append_right _ ?_
   show d ∈ ((ops[j]?).bind (·.dst)).toList
   rw [hd']
   simp
  have key : ∀ u : AV T.Γ, u.views = [] → ((foldA (effs.take i) st0).tmps[d]?).join = some u → ((foldA (sel listed effs) st0).tmps[d]?).join = some u := by
   intro u hv hu
   cases hq : (foldA (effs.take i) st0).tmps[d]? with
   | none => rw [hq] at hu; cases hu
   | some o =>
    rw [hq] at hu
    have hu : o = some u := by simpa using hu
    subst hu
    rw [h.tmp hd he hun hr hlook (fun s hs => by rw [hv] at hs; cases hs) hq]
    rfl
  refine ⟨d, hd', hg.imp (fun ⟨b, hb, hy⟩ => ⟨b, key _ rfl hb, hy⟩) (fun ⟨hb, hy⟩ => ⟨key _ rfl hb, hy⟩)⟩
theorem RunOk.evalAt {listed : Array Bool} (hd : DownOk ops listed) {i : Nat} {e : Eff T.Γ} (he : effs[i]? = some e) (hun : listed.getD i false = false) (hr : ∀ o, ops[i]? = some o → ∀ e ∈ o.after, Region.binds .any e = true → listed.getD e.on false = true)
  (hev : evalD T P S k e.o (foldA (effs.take i) st0).eval (foldA (effs.take i) st0).mem (fun v mc => some (v, mc)) = some (e.v, e.mc)) {rch : List Nat} (hreach : reach (foldA (effs.take i) st0).mem 1000 (opSites (foldA (effs.take i) st0).eval e.o.op.operands.toList) [] = some rch) (htch : e.tch = dstNm e.o ++ rch) :
  evalD T P S k e.o (foldA (sel listed effs) st0).eval (foldA (sel listed effs) st0).mem (fun v mc => some (v, mc)) = some (e.v, e.mc) := by
 obtain ⟨_, _, hin, hcl⟩ := reach_spec _ 1000 _ _ _ hreach List.nodup_nil
 have hcl := hcl (fun s hs => by cases hs)
 have hall : ∀ s ∈ rch, s ∈ e.all := fun s hs => all_tch (by rw [htch]; exact List.mem_append_right _ hs)
 refine evalD_mono (D := rch) (fun x hx u hu => ?_) (fun x hx u hu s hs => hin s (opSites_mem hx hu s hs)) (fun s hs => h.mem hd he hun hr (hall s hs)) hcl (fun d hdst => h.mem hd he hun hr (all_tch (by rw [htch]; unfold dstNm; rw [hdst]; simp))) hev
 cases x with
 | tmp t =>
  have h1 : ((foldA (effs.take i) st0).tmps[t]?).join = some u := hu
  show ((foldA (sel listed effs) st0).tmps[t]?).join = some u
  cases hq : (foldA (effs.take i) st0).tmps[t]? with
  | none => rw [hq] at h1; cases h1
  | some o =>
   rw [hq] at h1
   have h1 : o = some u := by simpa using h1
   subst h1
   rw [h.tmp hd he hun hr (by unfold Oper.looksAt; exact List.mem_append_left _ (List.mem_filterMap.mpr ⟨.tmp t, hx, rfl⟩)) (fun s hs => hall s (hin s (opSites_mem hx hu s (views_in hs)))) hq]
   rfl
 | _ => exact hu
omit h in
theorem freeAll_of {Γ : Sig} {st : St Γ} : ∀ {l : List Nat}, l.Nodup → (∀ d ∈ l, st.free d = true) → st.freeAll l = true := by
 intro l
 induction l with
 | nil => intro _ _; rfl
 | cons x r ih =>
  intro hn hf
  obtain ⟨h1, h2⟩ := List.nodup_cons.mp hn
  have hx : (st.free x && !r.elem x) = true := by
   rw [hf x List.mem_cons_self]
   have : r.elem x = false := by
    cases hq : r.elem x with
    | false => rfl
    | true => exact absurd (elem_iff.mp hq) h1
   rw [this]
   rfl
  simp only [St.freeAll, hx]
  exact ih h2 (fun d hd => hf d (List.mem_cons_of_mem _ hd))
theorem RunOk.applyAt {listed : Array Bool} (hd : DownOk ops listed) {i : Nat} {e : Eff T.Γ} (he : effs[i]? = some e) (hun : listed.getD i false = false) (hr : ∀ o, ops[i]? = some o → ∀ e ∈ o.after, Region.binds .any e = true → listed.getD e.on false = true)
  (hap : ∃ st', (foldA (effs.take i) st0).apply e.o.dst e.v e.mc = some st') : ∃ st', (foldA (sel listed effs) st0).apply e.o.dst e.v e.mc = some st' := by
 obtain ⟨st', hap⟩ := hap
 by_cases h0 : e.mc.sets = []
 ·unfold St.apply
  rw [h0]
  exact ⟨_, rfl⟩
 ·obtain ⟨_, hok, hpair⟩ := h.does _ e _ (split_at he)
  obtain ⟨_, hb⟩ := h.apart hd he hun hr
  have hi := (h.at_ i e he).1
  unfold effOk at hok
  simp only [Bool.and_eq_true, Bool.not_eq_true'] at hok
  obtain ⟨hnd, hfr⟩ := freeAll_spec hok.1
  have hmv := meets_false hok.2
  have hother : ∀ y ∈ sel listed effs, (∀ s ∈ e.mc.news, s ∉ y.all ∧ s ∉ y.keys) ∧ ∀ s ∈ setsViews y.mc.sets, s ∉ e.mc.writes := by
   intro y hy
   rw [h.selSplit he hun, List.mem_append] at hy
   rcases hy with hy | hy
   ·have hy := List.mem_filter.mp hy
    exact ⟨(hpair y hy.1).news, (hpair y hy.1).views⟩
   ·have hy := List.mem_filter.mp hy
    have hA := hb y hy.1 hy.2
    refine ⟨fun s hs => hA.keys1 s (keys_news hs), fun s hs hw => (hA.keys1 s (keys_writes hw)).1 (all_sets ?_)⟩
    have : ∀ {l : List (Nat × Option (Blk T.Γ))}, s ∈ setsViews l → s ∈ setsSites l := by
     intro l
     induction l with
     | nil => intro h; cases h
     | cons x r ih =>
      obtain ⟨q, o⟩ := x
      intro h
      cases o with
      | none => exact ih h
      | some b =>
       simp only [setsViews, setsSites, List.mem_append] at h ⊢
       exact h.imp views_sitesB ih
    exact this hs
  have hchk : ((foldA (sel listed effs) st0).freeAll e.mc.news && !meets (e.v.views ++ memViews ((foldA (sel listed effs) st0).mem.sets e.mc.sets)) e.mc.writes) = true := by
   simp only [Bool.and_eq_true, Bool.not_eq_true']
   refine ⟨freeAll_of hnd fun d hdn => ?_, meets_no fun s hs hw => ?_⟩
   ·obtain ⟨f1, f2, f3, f4⟩ := free_spec (hfr d hdn)
    have fmem := hfr d hdn
    unfold St.free at fmem ⊢
    simp only [Bool.and_eq_true, List.all_eq_true] at fmem ⊢
    refine ⟨⟨by rw [foldA_pins]; exact fmem.1.1, fun x hx => ?_⟩, fun p hp => ?_⟩
    ·cases x with
     | none => rfl
     | some v =>
      obtain ⟨t, ht⟩ := List.getElem?_of_mem hx
      rcases fold_tmps ht with h1 | ⟨y, hy, rfl⟩
      ·exact fmem.1.2 _ (List.mem_of_getElem? h1)
      ·have := ((hother y hy).1 d hdn).1
       have h2 : d ∉ y.v.sites := fun h => this (all_v h)
       simpa using h2
    ·rcases fold_mem hp with h1 | ⟨y, hy, h1⟩
     ·exact fmem.2 p h1
     ·obtain ⟨h2, h3⟩ := (hother y hy).1 d hdn
      have h4 : d ∉ p.2.sites := fun h => h2 (all_sets (setsSites_mem h1 d h))
      have h5 : p.1 ≠ d := fun e => h3 (keys_sets (List.mem_map.mpr ⟨_, h1, e⟩))
      simp only [Bool.not_eq_true', Bool.and_eq_true]
      exact ⟨by simpa using h5, by simpa using h4⟩
   ·rcases List.mem_append.mp hs with hs | hs
    ·unfold St.apply at hap
     split at hap
     ·exact h0 ‹_›
     ·split at hap
      ·rename_i hc
       simp only [Bool.and_eq_true, Bool.not_eq_true'] at hc
       exact meets_false hc.2 s (List.mem_append_left _ hs) hw
      ·cases hap
    ·obtain ⟨p, hp, hv⟩ := memViews_in hs
     rcases sets_mem hp with h1 | h1
     ·rcases fold_mem h1 with h2 | ⟨y, hy, h2⟩
      ·exact hmv s (List.mem_append_left _ (memViews_of h2 s hv)) hw
      ·exact (hother y hy).2 s (setsViews_mem h2 s hv) hw
     ·exact hmv s (List.mem_append_right _ (setsViews_mem h1 s hv)) hw
  unfold St.apply
  split
  ·exact ⟨_, rfl⟩
  ·rw [hchk]
   exact ⟨_, rfl⟩
end
theorem any_sound (hT : TabOk T P) (hS : ∀ f s, S f = some s → CallOk T P f s) (h : RunOk P S k ops st0 effs) {Q : Exit → Act → World → Prop} (hQ : ∀ E a w, Rel T W O A E0 E (foldA effs st0) a w → Q .normal a w) :
  ∀ (fuel : Nat) (listed : Array Bool) (E : Env) (a : Act) (w : World), listed.size = ops.size → DownOk ops listed → ((List.range ops.size).filter fun i => !listed.getD i true).length ≤ fuel → Rel T W O A E0 E (foldA (sel listed effs) st0) a w → wpAny P .any ops Q fuel listed a w := by
 have done : ∀ (listed : Array Bool) (E : Env) (a : Act) (w : World), listed.size = ops.size → DownOk ops listed → Region.ready .any ops listed = [] → Rel T W O A E0 E (foldA (sel listed effs) st0) a w → Q .normal a w := by
  intro listed E a w hsz hd hr hR
  have hall : ∀ i, i < ops.size → listed.getD i false = true := by
   intro i
   induction i using Nat.strongRecOn with
   | _ i ih =>
    intro hi
    cases hl : listed.getD i false with
    | true => rfl
    | false =>
     exfalso
     have : i ∈ Region.ready .any ops listed := by
      rw [mem_ready]
      refine ⟨?_, ops[i], Array.getElem?_eq_getElem hi, fun e he hb => ?_⟩
      ·rw [Array.getD_eq_getD_getElem?] at hl ⊢
       rw [Array.getElem?_eq_getElem (by omega)] at hl ⊢
       exact hl
      ·have := edges_lower h.edges (Array.getElem?_eq_getElem hi) he hb
       exact ih e.on this (by omega)
     rw [hr] at this
     cases this
  have : sel listed effs = effs := by
   unfold sel
   rw [List.filter_eq_self]
   intro e he
   obtain ⟨j, hj, rfl⟩ := List.getElem_of_mem he
   have := (h.at_ j _ (List.getElem?_eq_getElem hj)).1
   rw [this]
   exact hall j (by rw [← h.len]; exact hj)
  rw [this] at hR
  exact hQ E a w hR
 intro fuel
 induction fuel with
 | zero =>
  intro listed E a w hsz hd hf hR
  have hr : Region.ready .any ops listed = [] := by
   unfold Region.ready
   rw [List.filter_eq_nil_iff]
   intro i hi
   have : i ∉ (List.range ops.size).filter fun i => !listed.getD i true := by
    have : (List.range ops.size).filter (fun i => !listed.getD i true) = [] := List.eq_nil_of_length_eq_zero (by omega)
    rw [this]; simp
   simp only [List.mem_filter, not_and, Bool.not_eq_true, Bool.not_eq_false'] at this
   have := this hi
   simp [this]
  exact ⟨hr, done listed E a w hsz hd hr hR⟩
 | succ fuel ih =>
  intro listed E a w hsz hd hf hR
  refine ⟨fun hr => done listed E a w hsz hd hr hR, fun i hi => ?_⟩
  rw [mem_ready] at hi
  obtain ⟨hun, o, ho, hedges⟩ := hi
  have hilt : i < ops.size := (Array.getElem?_eq_some_iff.mp ho).1
  have hun' : listed.getD i false = false := by
   rw [Array.getD_eq_getD_getElem?] at hun ⊢
   rw [Array.getElem?_eq_getElem (by omega)] at hun ⊢
   exact hun
  have he : effs[i]? = some (effs[i]'(by rw [h.len]; exact hilt)) := List.getElem?_eq_getElem _
  generalize effs[i]'(by rw [h.len]; exact hilt) = e at he
  obtain ⟨hei, heo⟩ := h.at_ i e he
  have heo' : o = e.o := by rw [ho] at heo; exact Option.some.inj heo
  subst heo'
  have hr : ∀ o, ops[i]? = some o → ∀ e ∈ o.after, Region.binds .any e = true → listed.getD e.on false = true := fun o' ho' => by
   rw [ho] at ho'; cases ho'; exact hedges
  have hstep : ∀ E' a' w', Rel T W O A E0 E' (e.app (foldA (sel listed effs) st0)) a' w' → wpAny P .any ops Q fuel (listed.setIfInBounds i true) a' w' := by
   intro E' a' w' hR'
   refine ih _ E' a' w' (by simpa using hsz) (fun j hj o' ho' e' he' hb' => ?_) ?_ (hR'.eqv (h.next hsz hd he hun' hr))
   ·refine getD_set_true ?_
    by_cases hij : i = j
    ·subst hij; exact hr o' ho' e' he' hb'
    ·rw [getD_set_ne false hij] at hj; exact hd j hj o' ho' e' he' hb'
   ·have hlt : ((List.range ops.size).filter fun q => !(listed.setIfInBounds i true).getD q true).length < ((List.range ops.size).filter fun q => !listed.getD q true).length := by
     have hsub : ((List.range ops.size).filter fun q => !(listed.setIfInBounds i true).getD q true) = (((List.range ops.size).filter fun q => !listed.getD q true)).filter fun q => !(q == i) := by
      rw [List.filter_filter]
      refine List.filter_congr fun q hq => ?_
      by_cases hqi : i = q
      ·subst hqi
       simp [hsz, hilt]
      ·rw [getD_set_ne true hqi]
       have : (q == i) = false := by simp; omega
       simp [this]
     rw [hsub]
     have hmem : i ∈ (List.range ops.size).filter fun q => !listed.getD q true := List.mem_filter.mpr ⟨List.mem_range.mpr hilt, by rw [hun]; rfl⟩
     exact List.length_filter_lt_length_iff_exists.mpr ⟨i, hmem, by simp⟩
    omega
  obtain ⟨hdoes, _, _⟩ := h.does _ e _ (split_at he)
  unfold wpOp
  rw [ho]
  simp only
  rcases hdoes with ⟨hg, hev, hap, rch, hreach, htch⟩ | ⟨hg, hv, hmc⟩
  ·have hw := guard_wanted hR (h.guard hd he hun' hr hg)
   rw [hw, if_pos rfl]
   obtain ⟨st', hst'⟩ := h.applyAt hd he hun' hr hap
   refine .inl (op_sound hT hS e.o W O A E0 k _ E a w e.v e.mc st' _ Q hR (h.evalAt hd he hun' hr hev hreach htch) hst' ?_)
   rw [app_apply hst']
   exact hstep
  ·have hw := guard_wanted hR (h.guard hd he hun' hr hg)
   rw [hw, if_neg (by simp)]
   refine hstep E _ w ?_
   have : e.app (foldA (sel listed effs) st0) = (foldA (sel listed effs) st0).put e.o.dst (some (.tup [])) := by
    have := app_no (st := foldA (sel listed effs) st0) e.i e.o (.tup []) e.tch
    rw [← this]
    obtain ⟨i', o', v', mc', tch'⟩ := e
    simp only at hv hmc
    subst hv
    subst hmc
    rfl
   rw [this]
   exact put_rel hR undef_conc
theorem Rel.drawn (hT : TabOk T P) {st : St T.Γ} {E : Env} {a : Act} {w : World} (n : Nat) (hR : Rel T W O A E0 E st a w) : Rel T W O A E0 E st a { w with drawn := n } := by
 have hB : Stb (fun g => W.heap.size ≤ g ∨ O g) A E st.mem { w with drawn := n } = Stb (fun g => W.heap.size ≤ g ∨ O g) A E st.mem w := by
  funext p g
  cases p <;> rfl
 have stay : ∀ {B : Pv → Nat → Prop} (c : CV T.Γ), Stay E B w E B { w with drawn := n } c := fun c => ⟨fun _ _ => ⟨rfl, rfl⟩, fun _ _ _ hg => ⟨hg, rfl⟩⟩
 refine ⟨hR.defers, hR.size, fun t v hv => ?_, ⟨fun s b hb => ?_, hR.mem.apart⟩, hR.mine, ⟨hR.kept.os, hR.kept.tape, hR.kept.output, hR.kept.size, hR.kept.block⟩, hR.glob, hR.pin⟩
 ·obtain ⟨x, hx, hc⟩ := hR.tmps t v hv
  rw [hB]
  exact ⟨x, hx, hc.stay hT.stable (fun c _ => stay c)⟩
 ·rw [hB]
  exact BlkOk.stay (w := w) (w' := { w with drawn := n }) (E := E) (E' := E) hT ⟨rfl, rfl, rfl⟩ (fun _ _ _ => rfl) (fun c _ => stay c) (fun _ _ _ hg => ⟨hg, rfl⟩) (hR.mem.blk s b hb)
theorem reg_ok (hT : TabOk T P) (hS : ∀ f s, S f = some s → CallOk T P f s) : RegOk T P S := by
 intro W O A E0 k id ops draw st ω K r E a w Q h hR hG
 unfold evalReg at h
 cases draw with
 | false => exact wp_region_list (evalOps_sound hT hS k ops ops.toList st K r E a w Q h hR hG)
 | true =>
  simp only at h
  split at h
  ·rename_i he
   obtain ⟨es, htr, hK⟩ := evalAny_trace hS _ _ _ h
   refine wp_region_any hT.mixed ?_
   refine any_sound hT hS (runOk_of he htr) (fun E a w hR => hG _ E a w hK hR) ops.size _ E a _ (by simp) (fun j hj => ?_) ?_ ?_
   ·rw [Array.getD_eq_getD_getElem?, Array.getElem?_replicate] at hj
    split at hj <;> simp at hj
   ·exact Nat.le_trans (List.length_filter_le _ _) (by simp)
   ·have : sel (Array.replicate ops.size false) es = [] := by
     unfold sel
     rw [List.filter_eq_nil_iff]
     intro e _ hj
     rw [Array.getD_eq_getD_getElem?, Array.getElem?_replicate] at hj
     split at hj <;> simp at hj
    rw [this]
    exact hR.drawn hT _
  ·cases h
end
end Go.Proofs.YtbbpcbjgekencaaGreatDoor.Ev
end
section
set_option linter.unusedVariables false
set_option linter.unusedSimpArgs false
set_option linter.unusedVariables false
namespace Go.Proofs.YtbbpcbjgekencaaGreatDoor.Ev
open Go Go.RowKit
section
variable {Γ : Sig}
def Sub (az : List (Atom Γ)) (i : Nat) (l : List (Atom Γ)) : Prop := ∀ j a, l[j]? = some a → az[i + j]? = some a
theorem Sub.self (l : List (Atom Γ)) : Sub l 0 l := fun j a h => by rw [Nat.zero_add]; exact h
theorem Sub.left {az : List (Atom Γ)} {i : Nat} {l r : List (Atom Γ)} (h : Sub az i (l ++ r)) : Sub az i l := fun j a hj => h j a (by
 have hlt := (List.getElem?_eq_some_iff.mp hj).1
 rw [List.getElem?_append_left hlt]; exact hj)
theorem Sub.right {az : List (Atom Γ)} {i n : Nat} {l r : List (Atom Γ)} (h : Sub az i (l ++ r)) (hn : l.length = n) : Sub az (i + n) r := fun j a hj => by
 have := h (l.length + j) a (by rw [List.getElem?_append_right (by omega), Nat.add_sub_cancel_left]; exact hj)
 rw [hn] at this
 rw [Nat.add_assoc]
 exact this
theorem Sub.head {az : List (Atom Γ)} {i : Nat} {a : Atom Γ} (h : Sub az i [a]) : az[i]? = some a := h 0 a rfl
theorem likeV_at {p v : Value} (h : likeV p v = true) : (atV (Γ := Γ) p v).length = cntV p ∧ ∀ (az : List (Atom Γ)) i, Sub az i (atV p v) → fillV az i p = v := by
 unfold likeV at h
 split at h
 ·have := kindEq_eq h
  subst this
  exact ⟨rfl, fun az i hs => by simp only [fillV, aI, hs.head]⟩
 ·exact ⟨rfl, fun az i hs => by simp only [fillV, aB, hs.head]⟩
 ·exact ⟨rfl, fun az i hs => by simp only [fillV, aS, hs.head]⟩
 ·exact ⟨rfl, fun az i hs => rfl⟩
 ·exact ⟨rfl, fun az i hs => rfl⟩
 ·exact ⟨rfl, fun az i hs => rfl⟩
 ·exact ⟨rfl, fun az i hs => rfl⟩
 ·rename_i f a b g c d
  simp only [Bool.and_eq_true, beq_iff_eq] at h
  obtain ⟨rfl, h1, h2, h3, h4⟩ := h
  obtain rfl := Array.eq_empty_of_size_eq_zero h1
  obtain rfl := Array.eq_empty_of_size_eq_zero h2
  obtain rfl := Array.eq_empty_of_size_eq_zero h3
  obtain rfl := Array.eq_empty_of_size_eq_zero h4
  exact ⟨rfl, fun az i hs => rfl⟩
 ·simp only [Bool.and_eq_true, beq_iff_eq] at h
  obtain ⟨rfl, rfl⟩ := h
  exact ⟨rfl, fun az i hs => rfl⟩
 ·cases h
theorem capsEq_eq : ∀ {l r : List (Nat × Nat)}, capsEq l r = true → l = r
 | [], [], _ => rfl
 | (s, o) :: l, (s', o') :: r, h => by
  simp only [capsEq, Bool.and_eq_true, beq_iff_eq] at h
  obtain ⟨rfl, rfl, h⟩ := h
  rw [capsEq_eq h]
theorem aL_at {e : TypeId} {az : List (Atom Γ)} {i : Nat} {l : List (Γ.el e).ty} (h : az[i]? = some (.sl e l)) : aL e az i = l := by
 unfold aL
 rw [h]
 simp
theorem aE_at {e : TypeId} {az : List (Atom Γ)} {i : Nat} {x : (Γ.el e).ty} (h : az[i]? = some (.el e x)) : aE e az i = x := by
 unfold aE
 rw [h]
 simp
theorem aO_at {κ : Nat} {d x : Γ.ob κ} {az : List (Atom Γ)} {i : Nat} (h : az[i]? = some (.ob κ x)) : aO κ d az i = x := by
 unfold aO
 rw [h]
 simp
end
section
variable {T : Tab} {P : Program} {W : World} {O A : Nat → Prop} {E0 E : Env} {w : World} {N F : Nat → Prop} {m : Mem T.Γ}
theorem leqP_stb {p q : Pv} (h : leqP p q = true) {g : Nat} (hg : Stb N F E m w p g) : Stb N F E m w q g := by
 unfold leqP at h
 split at h
 ·cases q with
  | near => exact hg
  | far => exact near_far hg
  | of s => exact near_of hg
  | mix s => exact far_mix (near_far hg)
 ·exact hg
 ·exact far_mix hg
 ·have := beq_iff_eq.mp h; subst this; exact hg
 ·have := beq_iff_eq.mp h
  subst this
  exact ⟨hg.1, hg.2.imp_left fun h => ⟨h.1, .inl h.2⟩⟩
 ·have := beq_iff_eq.mp h; subst this; exact hg
 ·cases h
theorem likeC_at (hT : TabOk T P) {p x : CV T.Γ} (h : likeC p x = true) : (atC p x).length = cntC p ∧ ∀ (az : List (Atom T.Γ)) i, Sub az i (atC p x) → ∀ v, Conc T E (Stb N F E m w) w x v → Conc T E (Stb N F E m w) w (fillC az i p) v := by
 unfold likeC at h
 split at h
 ·obtain ⟨h1, h2⟩ := likeV_at (Γ := T.Γ) h
  refine ⟨h1, fun az i hs v hc => ?_⟩
  simp only [fillC]
  rw [h2 az i hs]
  exact hc
 ·simp only [Bool.and_eq_true, beq_iff_eq] at h
  obtain ⟨h1, rfl⟩ := h
  refine ⟨rfl, fun az i hs v hc => ?_⟩
  simp only [fillC]
  rw [aL_at hs.head]
  exact hc.tr hT.stable (f := id) (h := fun _ => _) ⟨fun s h => by simp [CV.names] at h, fun p h => by simp only [CV.pv, Option.some.injEq] at h; subst h; exact fun g hg => ⟨leqP_stb h1 hg, fun o u hu => hu⟩⟩
 ·rename_i q e l
  refine ⟨rfl, fun az i hs v hc => ?_⟩
  simp only [fillC]
  have hs : Sub az i [Atom.sl e []] := hs
  rw [aL_at hs.head]
  cases hc
  exact .sl0 _ _ _ _
 ·simp only [Bool.and_eq_true, beq_iff_eq] at h
  obtain ⟨rfl, rfl⟩ := h
  exact ⟨rfl, fun az i hs v hc => hc⟩
 ·have := beq_iff_eq.mp h
  subst this
  exact ⟨rfl, fun az i hs v hc => hc⟩
 ·simp only [Bool.and_eq_true, beq_iff_eq] at h
  obtain ⟨rfl, rfl, rfl⟩ := h
  refine ⟨rfl, fun az i hs v hc => ?_⟩
  simp only [fillC, aI]
  rw [hs.head]
  exact hc
 ·simp only [Bool.and_eq_true, beq_iff_eq] at h
  obtain ⟨h1, rfl, rfl⟩ := h
  refine ⟨rfl, fun az i hs v hc => ?_⟩
  simp only [fillC]
  rw [aE_at hs.head]
  exact hc.tr hT.stable (f := id) (h := fun _ => _) ⟨fun s h => by simp [CV.names] at h, fun p h => by simp only [CV.pv, Option.some.injEq] at h; subst h; exact fun g hg => ⟨leqP_stb h1 hg, fun o u hu => hu⟩⟩
 ·simp only [Bool.and_eq_true, beq_iff_eq] at h
  obtain ⟨rfl, h2⟩ := h
  have := capsEq_eq h2
  subst this
  exact ⟨rfl, fun az i hs v hc => hc⟩
 ·cases h
theorem likeL_at (hT : TabOk T P) : ∀ {p x : List (CV T.Γ)}, likeL p x = true → (atL p x).length = cntL p ∧ ∀ (az : List (Atom T.Γ)) i, Sub az i (atL p x) → ∀ vs, ConcL T E (Stb N F E m w) w x vs → ConcL T E (Stb N F E m w) w (fillL az i p) vs
 | [], [], _ => ⟨rfl, fun az i hs vs hc => hc⟩
 | p :: ps, x :: xs, h => by
  simp only [likeL, Bool.and_eq_true] at h
  obtain ⟨a1, a2⟩ := likeC_at (E := E) (w := w) (N := N) (F := F) (m := m) hT h.1
  obtain ⟨b1, b2⟩ := likeL_at hT h.2
  refine ⟨by simp only [atL, List.length_append, cntL]; omega, fun az i hs vs hc => ?_⟩
  cases vs with
  | nil => have := hc.1; simp at this
  | cons v vs =>
   have h1 := a2 az i hs.left v (hc.2 0 x v rfl rfl)
   have h2 := b2 az _ (hs.right a1) vs ⟨by have := hc.1; simpa using this, fun j cv u hj hu => hc.2 (j + 1) cv u (by simpa using hj) (by simpa using hu)⟩
   refine ⟨by simp only [fillL, List.length_cons]; rw [h2.1], fun j cv u hj hu => ?_⟩
   cases j with
   | zero => simp only [fillL, List.getElem?_cons_zero, Option.some.injEq] at hj hu; subst hj; subst hu; exact h1
   | succ j => simp only [fillL, List.getElem?_cons_succ] at hj hu; exact h2.2 j cv u hj hu
theorem likeT_at (hT : TabOk T P) {p x : TV T.Γ} (h : likeT p x = true) : (atT p x).length = cntT p ∧ ∀ (az : List (Atom T.Γ)) i, Sub az i (atT p x) → ∀ v, ConcT T E (Stb N F E m w) w x v → ConcT T E (Stb N F E m w) w (fillT az i p) v := by
 cases p with
 | cell p =>
  cases x with
  | cell x =>
   obtain ⟨a1, a2⟩ := likeC_at (E := E) (w := w) (N := N) (F := F) (m := m) hT (p := p) (x := x) h
   refine ⟨a1, fun az i hs v hc => ?_⟩
   cases hc with
   | cell hc => exact .cell (a2 az i hs _ hc)
  | agg l => cases h
 | agg p =>
  cases x with
  | cell x => cases h
  | agg l =>
   obtain ⟨a1, a2⟩ := likeL_at (E := E) (w := w) (N := N) (F := F) (m := m) hT (p := p) (x := l) h
   refine ⟨a1, fun az i hs v hc => ?_⟩
   cases hc with
   | agg hc => exact .agg (a2 az i hs _ hc)
theorem likeTs_at (hT : TabOk T P) : ∀ {p x : List (TV T.Γ)}, likeTs p x = true → (atTs p x).length = cntTs p ∧ ∀ (az : List (Atom T.Γ)) i, Sub az i (atTs p x) → (fillTs az i p).length = x.length ∧ ∀ (j : Nat) y, (fillTs az i p)[j]? = some y → ∃ z, x[j]? = some z ∧ ∀ v, ConcT T E (Stb N F E m w) w z v → ConcT T E (Stb N F E m w) w y v
 | [], [], _ => ⟨rfl, fun az i hs => ⟨rfl, fun j y h => by simp [fillTs] at h⟩⟩
 | p :: ps, x :: xs, h => by
  simp only [likeTs, Bool.and_eq_true] at h
  obtain ⟨a1, a2⟩ := likeT_at (E := E) (w := w) (N := N) (F := F) (m := m) hT h.1
  obtain ⟨b1, b2⟩ := likeTs_at hT h.2
  refine ⟨by simp only [atTs, List.length_append, cntTs]; omega, fun az i hs => ?_⟩
  obtain ⟨c1, c2⟩ := b2 az _ (hs.right a1)
  refine ⟨by simp only [fillTs, List.length_cons, c1], fun j y hj => ?_⟩
  cases j with
  | zero =>
   simp only [fillTs, List.getElem?_cons_zero, Option.some.injEq] at hj
   subst hj
   exact ⟨x, rfl, a2 az i hs.left⟩
  | succ j =>
   simp only [fillTs, List.getElem?_cons_succ] at hj
   obtain ⟨z, hz, hv⟩ := c2 j y hj
   exact ⟨z, by simpa using hz, hv⟩
theorem likeA_at (hT : TabOk T P) {p x : AV T.Γ} (h : likeA p x = true) : (atA p x).length = cntA p ∧ ∀ (az : List (Atom T.Γ)) i, Sub az i (atA p x) → ∀ v, ConcA T E (Stb N F E m w) w x v → ConcA T E (Stb N F E m w) w (fillA az i p) v := by
 cases p with
 | t p =>
  cases x with
  | t x =>
   obtain ⟨a1, a2⟩ := likeT_at (E := E) (w := w) (N := N) (F := F) (m := m) hT (p := p) (x := x) h
   refine ⟨a1, fun az i hs v hc => ?_⟩
   cases hc with
   | t hc => exact .t (a2 az i hs _ hc)
  | tup l => cases h
 | tup p =>
  cases x with
  | t x => cases h
  | tup l =>
   obtain ⟨a1, a2⟩ := likeTs_at (E := E) (w := w) (N := N) (F := F) (m := m) hT (p := p) (x := l) h
   refine ⟨a1, fun az i hs v hc => ?_⟩
   obtain ⟨c1, c2⟩ := a2 az i hs
   cases hc with
   | tup hl hc =>
    refine .tup (by rw [c1]; exact hl) (fun j y u hj hu => ?_)
    obtain ⟨z, hz, hv⟩ := c2 j y hj
    exact hv u (hc j z u hz hu)
theorem likeAs_at (hT : TabOk T P) : ∀ {p x : List (AV T.Γ)}, likeAs p x = true → (atAs p x).length = cntAs p ∧ ∀ (az : List (Atom T.Γ)) i, Sub az i (atAs p x) → ∀ vs, ConcAs T E (Stb N F E m w) w x vs → ConcAs T E (Stb N F E m w) w (fillAs az i p) vs
 | [], [], _ => ⟨rfl, fun az i hs vs hc => hc⟩
 | p :: ps, x :: xs, h => by
  simp only [likeAs, Bool.and_eq_true] at h
  obtain ⟨a1, a2⟩ := likeA_at (E := E) (w := w) (N := N) (F := F) (m := m) hT h.1
  obtain ⟨b1, b2⟩ := likeAs_at hT h.2
  refine ⟨by simp only [atAs, List.length_append, cntAs]; omega, fun az i hs vs hc => ?_⟩
  cases hc with
  | cons hc ht => exact .cons (a2 az i hs.left _ hc) (b2 az _ (hs.right a1) _ ht)
theorem likeB_hot {p b : Blk T.Γ} (h : likeB p b = true) (az : List (Atom T.Γ)) (i : Nat) : (fillB az i p).hot = b.hot := by
 cases p <;> cases b <;> first | rfl | cases h
theorem likeB_at (hT : TabOk T P) {p b : Blk T.Γ} (h : likeB p b = true) : (atB p b).length = cntB p ∧ ∀ (az : List (Atom T.Γ)) i, Sub az i (atB p b) → ∀ s, BlkOk T E (Stb N F E m w) w s b → BlkOk T E (Stb N F E m w) w s (fillB az i p) := by
 have wide : ∀ {q q' : Bool}, leq2 q' q = true → ∀ g, Stb N F E m w (pvOf q') g → Stb N F E m w (pvOf q) g := by
  intro q q' hq g hg
  cases q <;> cases q' <;> first | exact hg | exact near_far hg | cases hq
 cases p with
 | box t cs =>
  cases b with
  | box t' cs' =>
   simp only [likeB, Bool.and_eq_true, beq_iff_eq] at h
   obtain ⟨rfl, h⟩ := h
   obtain ⟨a1, a2⟩ := likeL_at (E := E) (w := w) (N := N) (F := F) (m := m) hT h
   refine ⟨a1, fun az i hs s hb => ?_⟩
   cases hb with
   | box t cs g vs hg hf hh hc => exact .box t _ g vs hg hf hh (a2 az i hs _ hc)
  | _ => cases h
 | row q e l =>
  cases b with
  | row q' e' l' =>
   simp only [likeB, Bool.and_eq_true, beq_iff_eq] at h
   obtain ⟨hq, rfl⟩ := h
   refine ⟨rfl, fun az i hs s hb => ?_⟩
   simp only [fillB]
   rw [aL_at hs.head]
   cases hb with
   | row q' e l g cap vs hg hf hh hsv hcap hv h =>
    refine .row q e _ g cap vs hg hf hh hsv hcap hv (fun i hi j cv hj => ?_)
    obtain ⟨c, h1, h2⟩ := cell_at hT (q := q') hj
    obtain ⟨y, hy, hz⟩ := h i hi j c h1
    refine ⟨y, hy, ?_⟩
    rcases h2 with ⟨v, rfl, rfl⟩ | ⟨_, e', l', rfl, rfl⟩
    ·cases hz; exact .c _
    ·exact hz.tr hT.stable (f := id) (h := fun _ => pvOf q) ⟨fun s h => by simp [CV.names] at h, fun p h => by simp only [CV.pv, Option.some.injEq] at h; subst h; exact fun g hg => ⟨wide hq g hg, fun o u hu => hu⟩⟩
   | nil q' e hf hsv => exact .nil _ _ hf hsv
  | _ => cases h
 | cold q e l =>
  cases b with
  | cold q' e' l' =>
   simp only [likeB, Bool.and_eq_true, beq_iff_eq] at h
   obtain ⟨hq, rfl⟩ := h
   refine ⟨rfl, fun az i hs s hb => ?_⟩
   simp only [fillB]
   rw [aL_at hs.head]
   cases hb with
   | cold q' e l hc => exact .cold q e _ (hc.tr hT.stable (f := id) (h := fun _ => pvOf q) ⟨fun s h => by simp [CV.names] at h, fun p h => by simp only [CV.pv, Option.some.injEq] at h; subst h; exact fun g hg => ⟨wide hq g hg, fun o u hu => hu⟩⟩)
  | _ => cases h
 | obj κ x =>
  cases b with
  | obj κ' x' =>
   have := beq_iff_eq.mp h
   subst this
   refine ⟨rfl, fun az i hs s hb => ?_⟩
   simp only [fillB]
   rw [aO_at hs.head]
   exact hb
  | _ => cases h
theorem likeM_at (hT : TabOk T P) : ∀ {p x : Mem T.Γ}, likeM p x = true → (atM p x).length = cntM p ∧ ∀ (az : List (Atom T.Γ)) i, Sub az i (atM p x) → ∀ s, match x.get s with
  | none => (fillM az i p).get s = none
  | some b => ∃ b', (fillM az i p).get s = some b' ∧ b'.hot = b.hot ∧ (BlkOk T E (Stb N F E m w) w s b → BlkOk T E (Stb N F E m w) w s b')
 | [], [], _ => ⟨rfl, fun az i hs s => rfl⟩
 | (q, p) :: ps, (q', x) :: xs, h => by
  simp only [likeM, Bool.and_eq_true, beq_iff_eq] at h
  obtain ⟨rfl, h1, h2⟩ := h
  obtain ⟨a1, a2⟩ := likeB_at (E := E) (w := w) (N := N) (F := F) (m := m) hT h1
  obtain ⟨b1, b2⟩ := likeM_at hT h2
  refine ⟨by simp only [atM, List.length_append, cntM]; omega, fun az i hs s => ?_⟩
  have hs1 := b2 az _ (hs.right a1) s
  simp only [Mem.get, fillM]
  by_cases e : (q == s) = true
  ·rw [if_pos e, if_pos e]
   exact ⟨_, rfl, likeB_hot h1 az i, fun hb => a2 az i hs.left s hb⟩
  ·rw [if_neg e, if_neg e]
   exact hs1
theorem likeO_at (hT : TabOk T P) : ∀ {p x : List (Option (AV T.Γ))}, likeO p x = true → (atO p x).length = cntO p ∧ ∀ (az : List (Atom T.Γ)) i, Sub az i (atO p x) → (fillO az i p).length = x.length ∧ ∀ (t : Nat) v, (fillO az i p)[t]? = some (some v) → ∃ u, x[t]? = some (some u) ∧ ∀ y, ConcA T E (Stb N F E m w) w u y → ConcA T E (Stb N F E m w) w v y
 | [], [], _ => ⟨rfl, fun az i hs => ⟨rfl, fun t v h => by simp [fillO] at h⟩⟩
 | some p :: ps, some x :: xs, h => by
  simp only [likeO, Bool.and_eq_true] at h
  obtain ⟨a1, a2⟩ := likeA_at (E := E) (w := w) (N := N) (F := F) (m := m) hT h.1
  obtain ⟨b1, b2⟩ := likeO_at hT h.2
  refine ⟨by simp only [atO, List.length_append, cntO]; omega, fun az i hs => ?_⟩
  obtain ⟨c1, c2⟩ := b2 az _ (hs.right a1)
  refine ⟨by simp only [fillO, List.length_cons, c1], fun t v hv => ?_⟩
  cases t with
  | zero =>
   simp only [fillO, List.getElem?_cons_zero, Option.some.injEq] at hv
   subst hv
   exact ⟨x, rfl, a2 az i hs.left⟩
  | succ t =>
   simp only [fillO, List.getElem?_cons_succ] at hv
   obtain ⟨u, hu, hy⟩ := c2 t v hv
   exact ⟨u, by simpa using hu, hy⟩
 | none :: ps, x :: xs, h => by
  simp only [likeO] at h
  obtain ⟨b1, b2⟩ := likeO_at hT h
  refine ⟨by simp only [atO, cntO]; exact b1, fun az i hs => ?_⟩
  obtain ⟨c1, c2⟩ := b2 az i hs
  refine ⟨by simp only [fillO, List.length_cons, c1], fun t v hv => ?_⟩
  cases t with
  | zero => simp [fillO] at hv
  | succ t =>
   simp only [fillO, List.getElem?_cons_succ] at hv
   obtain ⟨u, hu, hy⟩ := c2 t v hv
   exact ⟨u, by simpa using hu, hy⟩
theorem likeM_own (hT : TabOk T P) {p x : Mem T.Γ} (h : likeM p x = true) {az : List (Atom T.Γ)} {i : Nat} (hs : Sub az i (atM p x)) : ∀ s g, OwnBy E (fillM az i p) s g ↔ OwnBy E x s g := by
 intro s g
 have := (likeM_at (E := E) (w := default) (N := fun _ => True) (F := fun _ => True) (m := []) hT h).2 az i hs s
 constructor
 ·rintro ⟨b, hb, hh, hφ⟩
  cases hx : x.get s with
  | none => rw [hx] at this; rw [show (fillM az i p).get s = none from this] at hb; cases hb
  | some b0 =>
   rw [hx] at this
   obtain ⟨b', hb', hot, _⟩ := this
   rw [hb'] at hb
   simp only [Option.some.injEq] at hb
   subst hb
   exact ⟨b0, hx, by rw [← hot]; exact hh, hφ⟩
 ·rintro ⟨b, hb, hh, hφ⟩
  rw [hb] at this
  obtain ⟨b', hb', hot, _⟩ := this
  exact ⟨b', hb', by rw [hot]; exact hh, hφ⟩
theorem stb_eq {m m' : Mem T.Γ} (h : ∀ s g, OwnBy E m' s g ↔ OwnBy E m s g) : Stb N F E m' w = Stb N F E m w := by
 have hO : ∀ g, Own E m' g ↔ Own E m g := fun g => by simp only [Own, h]
 funext p g
 cases p <;> simp only [Stb, hO, h]
theorem own_eq {m m' : Mem T.Γ} (h : ∀ s g, OwnBy E m' s g ↔ OwnBy E m s g) : Own E m' = Own E m := by
 funext g
 simp only [Own, h]
theorem likeM_ok (hT : TabOk T P) {p x : Mem T.Γ} (h : likeM p x = true) {az : List (Atom T.Γ)} {i : Nat} (hs : Sub az i (atM p x)) (hx : MemOk T E (Stb N F E x w) w x) : MemOk T E (Stb N F E (fillM az i p) w) w (fillM az i p) := by
 have ho := likeM_own (E := E) hT h hs
 rw [stb_eq ho]
 refine ⟨fun s b hb => ?_, fun s s' g h1 h2 => hx.apart s s' g ((ho s g).mp h1) ((ho s' g).mp h2)⟩
 have := (likeM_at (E := E) (w := w) (N := N) (F := F) (m := x) hT h).2 az i hs s
 cases hq : x.get s with
 | none => rw [hq] at this; rw [show (fillM az i p).get s = none from this] at hb; cases hb
 | some b0 =>
  rw [hq] at this
  obtain ⟨b', hb', _, hok⟩ := this
  rw [hb'] at hb
  simp only [Option.some.injEq] at hb
  subst hb
  exact hok (hx.blk s b0 hq)
theorem Rel.like (hT : TabOk T P) {p st : St T.Γ} {a : Act} (h : likeSt p st = true) (hR : Rel T W O A E0 E st a w) : Rel T W O A E0 E (fillSt (atSt p st) p) a w := by
 unfold likeSt at h
 simp only [Bool.and_eq_true, beq_iff_eq] at h
 obtain ⟨h1, h2, h3⟩ := h
 obtain ⟨a1, a2⟩ := likeO_at (E := E) (w := w) (N := fun g => W.heap.size ≤ g ∨ O g) (F := A) (m := st.mem) hT h1
 have hsub : Sub (atSt p st) 0 (atO p.tmps st.tmps ++ atM p.mem st.mem) := Sub.self _
 obtain ⟨c1, c2⟩ := a2 (atSt p st) 0 hsub.left
 have hs2 : Sub (atSt p st) (cntO p.tmps) (atM p.mem st.mem) := by
  have := hsub.right a1
  rwa [Nat.zero_add] at this
 have ho := likeM_own (E := E) hT h2 hs2
 have hB : Stb (fun g => W.heap.size ≤ g ∨ O g) A E (fillSt (atSt p st) p).mem w = Stb (fun g => W.heap.size ≤ g ∨ O g) A E st.mem w := stb_eq ho
 have hO : ∀ g, Own E (fillSt (atSt p st) p).mem g ↔ Own E st.mem g := fun g => by simp only [Own]; exact exists_congr fun s => ho s g
 refine ⟨hR.defers, hR.size.trans c1.symm, fun t v hv => ?_, likeM_ok hT h2 hs2 hR.mem, fun g hg => hR.mine g ((hO g).mp hg), hR.kept, fun x hx => ⟨fun h => (hR.glob x hx).1 ((hO _).mp h), (hR.glob x hx).2⟩, ?_⟩
 ·obtain ⟨u, hu, hy⟩ := c2 t v hv
  obtain ⟨y, hy1, hy2⟩ := hR.tmps t u hu
  rw [hB]
  exact ⟨y, hy1, hy y hy2⟩
 ·exact ⟨h3.trans hR.pin.1, hR.pin.2⟩
end
end Go.Proofs.YtbbpcbjgekencaaGreatDoor.Ev
end
section
set_option linter.unusedVariables false
set_option linter.unusedSimpArgs false
set_option linter.unusedVariables false
namespace Go.Proofs.YtbbpcbjgekencaaGreatDoor.Ev
open Go Go.RowKit
section
variable {T : Tab} {P : Program} {W : World} {O A : Nat → Prop} {E0 E : Env} {w : World}
theorem value_run {a : Act} {s : Sem Value} {z : Value} {w' : World} (h : (do pure (Next.value (← s)) : Sem Next).run P w = .ok (.value z) w') : s.run P w = .ok z w' := by
 rw [Sem.run_bind] at h
 cases hs : s.run P w with
 | ok y w1 => rw [hs] at h; simp only [Result.andThen_ok, Sem.run_pure] at h; cases h; rfl
 | halt x w1 => rw [hs] at h; cases h
def resSem (tmps : Array Value) : ResultVar → Sem Value
 | .tmp t => pure (tmps.getD t undef)
 | .cell a t => do loadVar t (← asAddr (tmps.getD a undef))
theorem results_eq (fn : Func) (tmps : Array Value) : results fn tmps = (do
  let vs ← fn.results.mapM (resSem tmps)
  pure (if h : vs.size = 1 then vs[0] else .tuple vs)) := by
 unfold results
 congr 1
theorem resultOf_run (hT : TabOk T P) {st : St T.Γ} {a : Act} (hR : Rel T W O A E0 E st a w) {x : ResultVar} {v : TV T.Γ} (h : resultOf T st x = some v) :
  ∃ y, (resSem a.tmps x).run P w = .ok y w ∧ ConcT T E (SB T W O A E st.mem w) w v y := by
 cases x with
 | tmp t =>
  simp only [resultOf] at h
  split at h
  ·rename_i x hx
   simp only [Option.some.injEq] at h
   subst h
   have hc := eval_conc (x := .tmp t) hR hx
   cases hc with
   | t hc => exact ⟨_, rfl, hc⟩
  ·cases h
 | cell q t =>
  simp only [resultOf] at h
  split at h
  ·rename_i s o hx
   split at h
   ·rename_i t' cs hm
    split at h
    ·rename_i x hp
     simp only [Option.some.injEq] at h
     subst h
     have hl := load_ok hT (fun _ => none) { dst := none, op := .load t (.tmp q), type := 0, pos := "", after := #[], guard := none } t (.tmp q) rfl W O A E0 0 st E a w (.t x) .no hR (by
      have : st.eval (.tmp q) = some (.t (.cell (.box s o))) := hx
      simp only [evalD, this, loadA, hm, hp])
     obtain ⟨_, z, hz, hzc⟩ := hl
     have hc := eval_conc (x := .tmp q) hR hx
     cases hc with
     | t hc => cases hc with
      | cell hc =>
       generalize hy : a.eval (.tmp q) = y at hc
       cases hc with
       | box s o g hg =>
        have hy' : a.tmps.getD q undef = .pointer (some ⟨g, o, none⟩) := hy
        have h1 : (Instr.loadAt t (.pointer (some ⟨g, o, none⟩))).run P w = .ok z w := by
         have := value_run (a := a) (s := Instr.loadAt t (a.eval (.tmp q))) hz
         rwa [hy] at this
        cases hzc with
        | t hzc =>
         refine ⟨z, ?_, hzc⟩
         simp only [Instr.loadAt, Instr.sureAddr, Sem.run_bind, Sem.run_pure, Result.andThen_ok] at h1
         simp only [resSem]
         rw [hy']
         simp only [asAddr, Sem.run_bind, Sem.run_pure, Result.andThen_ok]
         exact h1
    ·cases h
   ·cases h
  ·cases h
theorem resultsOf_run (hT : TabOk T P) {st : St T.Γ} {a : Act} (hR : Rel T W O A E0 E st a w) : ∀ (rs : List ResultVar) (l : List (TV T.Γ)), resultsOf T st rs = some l →
  ∃ ys, (rs.mapM (resSem a.tmps)).run P w = .ok ys w ∧ ys.length = l.length ∧ ∀ (j : Nat) x v, l[j]? = some x → ys[j]? = some v → ConcT T E (SB T W O A E st.mem w) w x v := by
 intro rs
 induction rs with
 | nil => intro l h; simp only [resultsOf, Option.some.injEq] at h; subst h; exact ⟨[], rfl, rfl, fun j x v h => by simp at h⟩
 | cons r rs ih =>
  intro l h
  simp only [resultsOf] at h
  split at h
  ·rename_i v hv
   cases hq : resultsOf T st rs with
   | none => rw [hq] at h; cases h
   | some l2 =>
    rw [hq] at h
    simp only [Option.map_some, Option.some.injEq] at h
    subst h
    obtain ⟨y, hy, hc⟩ := resultOf_run hT hR hv
    obtain ⟨ys, hys, hl, hcs⟩ := ih l2 hq
    refine ⟨y :: ys, ?_, by simp [hl], fun j x u hj hu => ?_⟩
    ·rw [List.mapM_cons, Sem.run_bind, hy, Result.andThen_ok, Sem.run_bind, hys]
     rfl
    ·cases j with
     | zero => simp only [List.getElem?_cons_zero, Option.some.injEq] at hj hu; subst hj; subst hu; exact hc
     | succ j => exact hcs j x u (by simpa using hj) (by simpa using hu)
  ·cases h
theorem results_run (hT : TabOk T P) {st : St T.Γ} {a : Act} (hR : Rel T W O A E0 E st a w) {fn : Func} {l : List (TV T.Γ)} (h : resultsOf T st fn.results.toList = some l) :
  ∃ x, (results fn a.tmps).run P w = .ok x w ∧ ConcA T E (SB T W O A E st.mem w) w (tupOf l) x := by
 obtain ⟨ys, hys, hl, hc⟩ := resultsOf_run hT hR _ _ h
 refine ⟨if h : ys.toArray.size = 1 then ys.toArray[0] else .tuple ys.toArray, ?_, ?_⟩
 ·rw [results_eq, Array.mapM_eq_mapM_toList]
  simp only [Sem.run_bind, Sem.run_map, hys, Result.andThen_ok]
  rfl
 ·match l, ys, hl, hc with
  | [v], [y], _, hc => exact .t (hc 0 v y rfl rfl)
  | [], [], _, hc => exact .tup rfl (fun j x v h => by simp at h)
  | v :: v2 :: r, y :: y2 :: ys, hl, hc =>
   rw [dif_neg (by simp)]
   exact .tup (by simpa using hl) (fun j x u hj hu => hc j x u hj (by simpa using hu))
theorem coolL_map {Γ : Sig} (n : Nat) (l : List (CV Γ)) : coolL n l = l.map (CV.cool n) := by
 induction l with
 | nil => rfl
 | cons x r ih => simp [coolL, ih]
theorem TV.cool_tr {Γ : Sig} (n : Nat) (x : TV Γ) : x.cool n = x.tr id (Pv.cool n) := by
 cases x with
 | cell x => simp [TV.cool, TV.tr, tr_cool]
 | agg l => simp only [TV.cool, TV.tr, coolL_map]; congr 1; exact List.map_congr_left fun x _ => tr_cool n x
theorem coolT_map {Γ : Sig} (n : Nat) (l : List (TV Γ)) : coolT n l = l.map (TV.cool n) := by
 induction l with
 | nil => rfl
 | cons x r ih => simp [coolT, ih]
theorem tupOf_tr {Γ : Sig} (f : Nat → Nat) (h : Pv → Pv) (l : List (TV Γ)) : tupOf (l.map (TV.tr f h)) = (tupOf l).tr f h := by
 match l with
 | [] => rfl
 | [v] => rfl
 | v :: v2 :: r => rfl
theorem cool_ren {Γ : Sig} (n : Nat) (f : Nat → Nat) (l : List (TV Γ)) : (tupOf (coolT n l)).ren f = (tupOf l).tr f (Pv.ren f ∘ Pv.cool n) := by
 rw [coolT_map, AV.ren_tr]
 have : l.map (TV.cool n) = l.map (TV.tr id (Pv.cool n)) := List.map_congr_left fun x _ => TV.cool_tr n x
 rw [this, tupOf_tr, AV.tr_tr]
 rfl
theorem tupOf_cs {Γ : Sig} {l : List (TV Γ)} {c : CV Γ} (h : c ∈ (tupOf l).cs) : c ∈ csT l := by
 match l, h with
 | [], h => exact h
 | [v], h => simp only [csT, List.append_nil]; exact h
 | v :: v2 :: r, h => exact h
theorem csT_in {Γ : Sig} {l : List (TV Γ)} {c : CV Γ} (h : c ∈ csT l) : ∃ x ∈ l, c ∈ x.cs := by
 induction l with
 | nil => cases h
 | cons x r ih =>
  simp only [csT, List.mem_append] at h
  rcases h with h | h
  ·exact ⟨x, List.mem_cons_self, h⟩
  ·obtain ⟨y, hy, hc⟩ := ih h
   exact ⟨y, List.mem_cons_of_mem _ hy, hc⟩
theorem sites_cool {Γ : Sig} {l : List (TV Γ)} {c : CV Γ} (n : Nat) (h : c ∈ csT l) : ∀ s ∈ (c.cool n).sites, s ∈ sitesT (coolT n l) := by
 intro s hs
 obtain ⟨x, hx, hc⟩ := csT_in h
 rw [coolT_map]
 have hm : x.cool n ∈ l.map (TV.cool n) := List.mem_map.mpr ⟨x, hx, rfl⟩
 refine sitesT_of hm ?_
 cases x with
 | cell y => simp [TV.cs] at hc; subst hc; exact hs
 | agg l =>
  show s ∈ sitesL (coolL n l)
  rw [coolL_map]
  exact sitesL_mem (List.mem_map.mpr ⟨c, hc, rfl⟩) hs
theorem coolViews_mem (n : Nat) : ∀ {l : List Nat} {s : Nat}, s ∈ l → n ≤ s → s ∈ coolViews n l := by
 intro l
 induction l with
 | nil => intro s h; cases h
 | cons x r ih =>
  intro s h hn
  simp only [coolViews]
  cases h with
  | head =>
   split
   ·rename_i hb; have := blt_true.mp hb; omega
   ·exact List.mem_cons_self
  | tail _ h =>
   have := ih h hn
   split
   ·exact this
   ·exact List.mem_cons_of_mem _ this
theorem finish_sound (hT : TabOk T P) {st : St T.Γ} {a : Act} (hR : Rel T W O A E0 E st a w) {fn : Func} {ω : Type} {K : AV T.Γ → Mem T.Γ → Option ω} {r : ω} (h : finish T fn.results.toList K st = some r) :
  ∃ v m x E', K v m = some r ∧ (results fn a.tmps).run P w = .ok x w ∧ Left T O A st.pins E0 W v m E' x w := by
 unfold finish at h
 split at h
 case h_2 => cases h
 rename_i l hl
 split at h
 case h_2 => cases h
 rename_i acc hacc
 split at h
 case h_2 => cases h
 rename_i hmt
 obtain ⟨hd, hpre, hroots, hcl, hkn⟩ := reachFrom_spec hacc
 obtain ⟨x, hx, hxc⟩ := results_run hT hR hl
 have hno : ∀ g, ¬ Own E st.mem g → ¬ Own (E.by acc) (lend st.mem (idx acc) 0 acc) g := fun g h ho => h (lend_own ho)
 refine ⟨_, _, x, E.by acc, h, hx, hR.kept, fun i hi => ?_, ?_, lend_mem hT hd hcl hR.mem, fun g hg => hR.mine g (lend_own hg)⟩
 ·have hs : acc[i]? = some i := by
   obtain ⟨r, rfl⟩ := hpre
   rw [List.getElem?_append_left (by simpa using hi), List.getElem?_range (by simpa using hi)]
  have e := getD_of hs
  have := hR.pin.2 i (by rw [← hR.pin.1]; exact hi)
  simp only [Env.by, e]
  exact this
 ·rw [cool_ren]
  refine hxc.tr hT.stable (fun c hc => ?_)
  have hc := tupOf_cs hc
  have hsites := sites_cool st.pins hc
  have hnames : ∀ s ∈ c.names, s ∈ acc := fun s hs => hroots s (hsites s (by cases c <;> simp [CV.names] at hs <;> simp [CV.cool, CV.sites, hs]))
  have hfresh : ∀ s ∈ c.views, st.pins ≤ s → s ∉ acc := fun s hs hn => by
   obtain ⟨y, hy, hcy⟩ := csT_in hc
   exact meets_false hmt s (coolViews_mem _ (viewsT_of hy (TV.views_mem hcy hs)) hn)
  refine ⟨fun s hs => ?_, fun p hp g hg => ⟨?_, fun o u hu => hu⟩⟩
  ·have := idx_getD (hnames s hs)
   simp only [Env.by, this, and_self]
  ·have cold : ∀ s, s ∈ c.views → st.pins ≤ s → OwnBy E st.mem s g → ¬ Own (E.by acc) (lend st.mem (idx acc) 0 acc) g := by
    rintro s hs hn ho ⟨i, hi⟩
    obtain ⟨s', hs', ho'⟩ := lend_ownBy hi
    have := hR.mem.apart s s' g ho ho'
    subst this
    exact hfresh s hs hn (List.mem_of_getElem? hs')
   cases p with
   | near => exact ⟨hg.1, hno g hg.2.1, hg.2.2⟩
   | far => exact ⟨hg.1, hno g hg.2.1, hg.2.2⟩
   | of s =>
    have hsv := pv_views (.inl hp)
    simp only [Function.comp_apply, Pv.cool]
    cases hb : s.blt st.pins with
    | true =>
     have hin : s ∈ acc := hroots s (hsites s (by
      cases c with
      | sl p e l => simp only [CV.pv, Option.some.injEq] at hp; subst hp; simp [CV.cool, Pv.cool, hb, CV.sites, Pv.sites]
      | elp p e y o => simp only [CV.pv, Option.some.injEq] at hp; subst hp; simp [CV.cool, Pv.cool, hb, CV.sites, Pv.sites]
      | _ => cases hp))
     refine ⟨hg.1, ?_⟩
     rcases hg.2 with h1 | h1
     ·exact .inl ⟨hno g h1.1, h1.2⟩
     ·exact .inr (ownBy_lend hin h1)
    | false =>
     have hn : st.pins ≤ s := by
      have : ¬ s < st.pins := fun h => by rw [blt_true.mpr h] at hb; cases hb
      omega
     rcases hg.2 with h1 | h1
     ·exact ⟨hg.1, hno g h1.1, h1.2⟩
     ·exact ⟨hg.1, cold s hsv hn h1, hR.mine g ⟨s, h1⟩⟩
   | mix s =>
    have hsv := pv_views (.inr hp)
    simp only [Function.comp_apply, Pv.cool]
    cases hb : s.blt st.pins with
    | true =>
     have hin : s ∈ acc := hroots s (hsites s (by
      cases c with
      | sl p e l => simp only [CV.pv, Option.some.injEq] at hp; subst hp; simp [CV.cool, Pv.cool, hb, CV.sites, Pv.sites]
      | elp p e y o => simp only [CV.pv, Option.some.injEq] at hp; subst hp; simp [CV.cool, Pv.cool, hb, CV.sites, Pv.sites]
      | _ => cases hp))
     refine ⟨hg.1, ?_⟩
     rcases hg.2 with h1 | h1
     ·exact .inl ⟨hno g h1.1, h1.2⟩
     ·exact .inr (ownBy_lend hin h1)
    | false =>
     have hn : st.pins ≤ s := by
      have : ¬ s < st.pins := fun h => by rw [blt_true.mpr h] at hb; cases hb
      omega
     rcases hg.2 with h1 | h1
     ·exact ⟨hg.1, hno g h1.1, h1.2⟩
     ·exact ⟨hg.1, cold s hsv hn h1, .inl (hR.mine g ⟨s, h1⟩)⟩
end
end Go.Proofs.YtbbpcbjgekencaaGreatDoor.Ev
end
section
set_option linter.unusedVariables false
set_option linter.unusedSimpArgs false
set_option linter.unusedVariables false
namespace Go.Proofs.YtbbpcbjgekencaaGreatDoor.Ev
open Go Go.RowKit
section
variable {T : Tab} {P : Program}
theorem likeM_length {Γ : Sig} : ∀ {p x : Mem Γ}, likeM p x = true → p.length = x.length
 | [], [], _ => rfl
 | (s, p) :: ps, (s', x) :: xs, h => by
  simp only [likeM, Bool.and_eq_true] at h
  simp [likeM_length h.2.2]
theorem fillM_length {Γ : Sig} (az : List (Atom Γ)) : ∀ (i : Nat) (p : Mem Γ), (fillM az i p).length = p.length
 | _, [] => rfl
 | i, (s, b) :: r => by simp [fillM, fillM_length az _ r]
theorem ConcAs.length {E : Env} {B : Pv → Nat → Prop} {w : World} {xs : List (AV T.Γ)} {vs : List Value} (h : ConcAs T E B w xs vs) : vs.length = xs.length := by
 induction h with
 | nil => rfl
 | cons _ _ ih => simp [ih]
theorem ConcAs.get {E : Env} {B : Pv → Nat → Prop} {w : World} {xs : List (AV T.Γ)} {vs : List Value} (h : ConcAs T E B w xs vs) : ∀ (j : Nat) x, xs[j]? = some x → ∃ v, vs[j]? = some v ∧ ConcA T E B w x v := by
 induction h with
 | nil => intro j x h; simp at h
 | cons h _ ih =>
  intro j x hj
  cases j with
  | zero => simp only [List.getElem?_cons_zero, Option.some.injEq] at hj; subst hj; exact ⟨_, rfl, h⟩
  | succ j => exact ih j x (by simpa using hj)
theorem findP_mem {β : Type _} : ∀ {l : List (Nat × β)} {n : Nat} {p : β}, findP l n = some p → (n, p) ∈ l
 | (q, x) :: r, n, p, h => by
  simp only [findP] at h
  split at h
  ·rename_i hq
   have := beq_iff_eq.mp hq
   subst this
   simp only [Option.some.injEq] at h
   subst h
   exact List.mem_cons_self
  ·exact List.mem_cons_of_mem _ (findP_mem h)
theorem start_rel {E : Env} {m : Mem T.Γ} {A : Nat → Prop} {w : World} {fn : Func} {args : List (AV T.Γ)} {vals : List Value} (hm : MemOk T E (SB T w (Own E m) A E m w) w m) (ha : ConcAs T E (SB T w (Own E m) A E m w) w args vals) (hg : GlobOk T E m w) :
  Rel T w (Own E m) A { E with n := m.length } E (start T fn args m) { tmps := vals.toArray ++ Array.replicate (fn.ntmps - vals.toArray.size) undef, defers := [] } w := by
 have hl := ha.length
 refine ⟨rfl, by simp [start, hl], fun t v hv => ?_, hm, fun g h => .inr h, Kept.refl _ _, hg, rfl, fun i _ => ⟨rfl, rfl, rfl⟩⟩
 have hv : (args.map some ++ List.replicate (fn.ntmps - args.length) none)[t]? = some (some v) := hv
 by_cases hlt : t < args.length
 ·rw [List.getElem?_append_left (by simpa using hlt), List.getElem?_map] at hv
  cases hx : args[t]? with
  | none => rw [hx] at hv; cases hv
  | some x =>
   rw [hx] at hv
   simp only [Option.map_some, Option.some.injEq] at hv
   subst hv
   obtain ⟨y, hy, hc⟩ := ha.get t x hx
   refine ⟨y, ?_, hc⟩
   rw [Array.getElem?_append_left (by simpa [hl] using hlt)]
   simpa using hy
 ·rw [List.getElem?_append_right (by simpa using hlt), List.getElem?_replicate] at hv
  split at hv <;> cases hv
theorem form_ok (hT : TabOk T P) {S : FuncId → Option (FnS T.Γ)} (hS : ∀ f s, S f = some s → CallOk T P f s) {id : FuncId} {fn : Func} {c : Code} (hfn : P.funcs[id]? = some fn) (hb : fn.body = some c)
  (hent : ∀ (vs : Array Value) (w : World), (callFunc id vs).run P w = .ok (.enter id vs) w) (lv : List (Nat × List Nat)) (F : EvForm T.Γ) (ps : List (Nat × St T.Γ)) (C : Nat → Nat → List (Atom T.Γ) → Option F.R)
  (h0 : ∀ n az, C 0 n az = none) (hC : ∀ p ∈ ps, ∀ k az, C (k + 1) p.1 az = stepAt T P S lv fn F.dec (Lof ps C) k p.1 (fillSt az p.2))
  (hf : ∀ k az, F.f k az = runL T P S lv fn k (Lof ps C k) (fillAs az 0 F.args) (fillM az (cntAs F.args) F.lent) F.dec)
  (hr : ∀ az, fillA (F.lets (F.tup az)) 0 F.res = fillA az 0 F.res ∧ fillM (F.lets (F.tup az)) (cntA F.res) F.left = fillM az (cntA F.res) F.left) : CallOk T P id F.fn := by
 refine ⟨fun k xs m ω K => ?_, hent, fun k xs m m' v hsp E A w vals ha hm hg => ?_⟩
 ·show F.spec k xs m ω K = (F.spec k xs m (AV T.Γ × Mem T.Γ) fun v m => some (v, m)).bind fun p => K p.1 p.2
  unfold EvForm.spec
  cases likeAs F.args xs && likeM F.lent m with
  | false => rfl
  | true =>
   simp only
   cases F.f k (atAs F.args xs ++ atM F.lent m) with
   | none => rfl
   | some r => rfl
 ·have hsp : F.spec k xs m (AV T.Γ × Mem T.Γ) (fun v m => some (v, m)) = some (v, m') := hsp
  unfold EvForm.spec at hsp
  split at hsp
  case h_2 => cases hsp
  rename_i hlike
  simp only [Bool.and_eq_true] at hlike
  cases hfr : F.f k (atAs F.args xs ++ atM F.lent m) with
  | none => rw [hfr] at hsp; cases hsp
  | some r =>
   rw [hfr] at hsp
   simp only [Option.bind_some, Option.some.injEq, Prod.mk.injEq] at hsp
   obtain ⟨hv, hm'⟩ := hsp
   rw [hf] at hfr
   obtain ⟨a1, a2⟩ := likeAs_at (E := E) (w := w) (N := fun g => w.heap.size ≤ g ∨ Own E m g) (F := A) (m := m) hT hlike.1
   have hsub : Sub (atAs F.args xs ++ atM F.lent m) 0 (atAs F.args xs ++ atM F.lent m) := Sub.self _
   have ha' := a2 _ 0 hsub.left vals ha
   have hs2 : Sub (atAs F.args xs ++ atM F.lent m) (cntAs F.args) (atM F.lent m) := by
    have := hsub.right a1
    rwa [Nat.zero_add] at this
   generalize hmem : fillM (atAs F.args xs ++ atM F.lent m) (cntAs F.args) F.lent = mem0 at hfr
   have ho := likeM_own (E := E) hT hlike.2 hs2
   have hm0 := likeM_ok (E := E) (N := fun g => w.heap.size ≤ g ∨ Own E m g) (F := A) hT hlike.2 hs2 hm
   rw [hmem] at ho hm0
   have hO : Own E mem0 = Own E m := own_eq ho
   have hlen : mem0.length = m.length := by rw [← hmem, fillM_length, likeM_length hlike.2]
   have ha0 : ConcAs T E (SB T w (Own E mem0) A E mem0 w) w (fillAs (atAs F.args xs ++ atM F.lent m) 0 F.args) vals := by
    show ConcAs T E (Stb (fun g => w.heap.size ≤ g ∨ Own E mem0 g) A E mem0 w) w _ vals
    rw [hO, stb_eq ho]
    exact ha'
   have hR := start_rel (fn := fn) (A := A) (vals := vals) (by show MemOk T E (Stb (fun g => w.heap.size ≤ g ∨ Own E mem0 g) A E mem0 w) w mem0; rw [hO]; exact hm0) ha0 (fun x hx => ⟨by rw [hO]; exact (hg x hx).1, (hg x hx).2⟩)
   refine calls_of_wp hfn hb ?_
   unfold runL at hfr
   rw [hb] at hfr
   have hL : ∀ {W : World} {O A : Nat → Prop} {E0 : Env}, LOk (finish T fn.results.toList F.dec) (Lof ps C) fn P S lv W O A E0 := by
    intro W O A E0 k n x st r hcut hl
    unfold Lof at hl
    split at hl
    case h_2 => cases hl
    rename_i p hp
    split at hl
    case h_2 => cases hl
    rename_i hst
    cases k with
    | zero => rw [h0] at hl; cases hl
    | succ k =>
     refine ⟨k, fillSt (atSt p st) p, rfl, fun E a w hR => hR.like hT hst, ?_⟩
     rw [hC (n, p) (findP_mem hp)] at hl
     unfold stepAt at hl
     rw [hcut] at hl
     exact hl
   have good : Good T w (Own E mem0) A { E with n := mem0.length } (finish T fn.results.toList F.dec) r fun a w' => a.defers = [] ∧ ∃ y, (results fn a.tmps).run P w' = .ok y w' ∧ ∃ x E', Ending.returned y = .returned x ∧ Left T (Own E m) A m.length E w v m' E' x w' := by
    intro st E2 a w' hfin hR2
    obtain ⟨vf, mf, x, E', hdec, hres, hleft⟩ := finish_sound hT hR2 hfin
    refine ⟨hR2.defers, x, hres, x, E', rfl, ?_⟩
    unfold EvForm.dec at hdec
    split at hdec
    case h_2 => cases hdec
    rename_i hl2
    simp only [Bool.and_eq_true] at hl2
    simp only [Option.some.injEq] at hdec
    subst hdec
    rw [(hr _).1] at hv
    rw [(hr _).2] at hm'
    obtain ⟨b1, b2⟩ := likeA_at (E := E') (w := w') (N := fun g => w.heap.size ≤ g ∨ Own E m g) (F := A) (m := mf) hT hl2.1
    have hsub2 : Sub (atA F.res vf ++ atM F.left mf) 0 (atA F.res vf ++ atM F.left mf) := Sub.self _
    have hs3 : Sub (atA F.res vf ++ atM F.left mf) (cntA F.res) (atM F.left mf) := by
     have := hsub2.right b1
     rwa [Nat.zero_add] at this
    have ho2 := likeM_own (E := E') hT hl2.2 hs3
    rw [hm'] at ho2
    refine ⟨by rw [← hO]; exact hleft.kept, fun i hi => hleft.env i ?_, ?_, ?_, fun g hgo => ?_⟩
    ·have hp : st.pins = mem0.length := hR2.pin.1
     rw [hp, hlen]
     exact hi
    ·show ConcA T E' (Stb (fun g => w.heap.size ≤ g ∨ Own E m g) A E' m' w') w' v x
     rw [stb_eq ho2, ← hv]
     refine b2 _ 0 hsub2.left x ?_
     have := hleft.val
     rw [hO] at this
     exact this
    ·have := hleft.mem
     rw [hO] at this
     have := likeM_ok hT hl2.2 hs3 this
     rw [hm'] at this
     exact this
    ·have := hleft.mine g ((own_eq ho2 ▸ hgo : Own E' mf g))
     rw [hO] at this
     exact this
   exact exec_sound (finish T fn.results.toList F.dec) (Lof ps C) fn hT (reg_ok hT hS) (cuts_sound (finish T fn.results.toList F.dec) (Lof ps C) fn hT (reg_ok hT hS) hL k) 1000 r 0 c [] _ E _ w _ (fun t h1 h2 => by unfold cutOf; rw [hb]) .nil hfr hR (.nil _ good good)
end
end Go.Proofs.YtbbpcbjgekencaaGreatDoor.Ev
end
section
set_option linter.unusedVariables false
set_option linter.unusedSimpArgs false
set_option linter.unusedVariables false
namespace Go.Proofs.YtbbpcbjgekencaaGreatDoor.Ev
open Go Go.RowKit
theorem all_nil {β : Type _} {p : β → Prop} : ∀ x ∈ ([] : List β), p x := fun x h => by cases h
theorem all_cons {β : Type _} {p : β → Prop} {x : β} {l : List β} (h : p x) (t : ∀ y ∈ l, p y) : ∀ y ∈ x :: l, p y := fun y hy => by
 cases hy with
 | head => exact h
 | tail _ hy => exact t y hy
theorem enters_fn {P : Program} {id : FuncId} {fn : Func} (hfn : P.funcs[id]? = some fn) (hn : (fn.name == "runtime.NumGoroutine") = false) (hb : fn.body.isNone = false) (vs : Array Value) (w : World) :
  (callFunc id vs).run P w = .ok (.enter id vs) w := by
 simp only [callFunc, program, Sem.run_bind, Sem.run, Result.andThen_ok]
 rw [hfn]
 simp only [hn, hb]
 rfl
variable {T : Tab} {P : Program}
theorem fn_ok (hT : TabOk T P) (fs : List (Nat × FnS T.Γ)) (hS : ∀ p ∈ fs, CallOk T P p.1 p.2) {id : FuncId} {fn : Func} (hfn : P.funcs[id]? = some fn) (hn : (fn.name == "runtime.NumGoroutine") = false) (hb : fn.body.isNone = false) (lv : List (Nat × List Nat)) (F : EvForm T.Γ) (ps : List (Nat × St T.Γ))
  (C : Nat → Nat → List (Atom T.Γ) → Option F.R) (h0 : ∀ n az, C 0 n az = none) (hC : ∀ p ∈ ps, ∀ k az, C (k + 1) p.1 az = stepAt T P (findP fs) lv fn F.dec (Lof ps C) k p.1 (fillSt az p.2))
  (hf : ∀ k az, F.f k az = runL T P (findP fs) lv fn k (Lof ps C k) (fillAs az 0 F.args) (fillM az (cntAs F.args) F.lent) F.dec)
  (hr : ∀ az, fillA (F.lets (F.tup az)) 0 F.res = fillA az 0 F.res ∧ fillM (F.lets (F.tup az)) (cntA F.res) F.left = fillM az (cntA F.res) F.left) : CallOk T P id F.fn := by
 cases hc : fn.body with
 | none => rw [hc] at hb; cases hb
 | some c => exact form_ok hT (fun f s h => hS (f, s) (findP_mem h)) hfn hc (enters_fn hfn hn hb) lv F ps C h0 hC hf hr
end Go.Proofs.YtbbpcbjgekencaaGreatDoor.Ev
end
section
set_option linter.unusedVariables false
set_option linter.unusedSimpArgs false
set_option linter.unusedVariables false
namespace Go.Proofs.YtbbpcbjgekencaaGreatDoor.Ev
open Go Go.RowKit
section
variable {Γ : Sig}
theorem Kn.get_at {az : List (Atom Γ)} {i : Nat} : ∀ {k : Kn Γ} {x : k.ty}, az[i]? = some (k.at x) → k.get az i = x
 | .I, x, h => by
  have h : az[i]? = some (.int x) := h
  show aI az i = x
  unfold aI; rw [h]
 | .B, x, h => by
  have h : az[i]? = some (.bool x) := h
  show aB az i = x
  unfold aB; rw [h]
 | .S, x, h => by
  have h : az[i]? = some (.str x) := h
  show aS az i = x
  unfold aS; rw [h]
 | .L e, x, h => aL_at h
 | .E e, x, h => aE_at h
 | .O κ d, x, h => aO_at h
theorem letK_at (az : List (Atom Γ)) : ∀ (ks : List (Kn Γ)) (i j : Nat) (k : Kn Γ), ks[j]? = some k → (letK ks (tupK ks i az))[j]? = some (k.at (k.get az (i + j)))
 | [], i, j, k, h => by simp at h
 | [k'], i, j, k, h => by
  cases j with
  | zero => simp only [List.getElem?_cons_zero, Option.some.injEq] at h; subst h; rfl
  | succ j => simp at h
 | k' :: m :: r, i, j, k, h => by
  cases j with
  | zero => simp only [List.getElem?_cons_zero, Option.some.injEq] at h; subst h; rfl
  | succ j =>
   have := letK_at az (m :: r) (i + 1) j k (by simpa using h)
   rw [show i + 1 + j = i + (j + 1) by omega] at this
   exact this
def Agr (ks : List (Kn Γ)) (az : List (Atom Γ)) (i : Nat) (bs : List (Atom Γ)) (j : Nat) : Prop := ∀ (p : Nat) (k : Kn Γ), ks[p]? = some k → k.get az (i + p) = k.get bs (j + p)
variable {az bs : List (Atom Γ)} {i j : Nat}
theorem Agr.head {k : Kn Γ} {r : List (Kn Γ)} (h : Agr (k :: r) az i bs j) : k.get az i = k.get bs j := h 0 k rfl
theorem Agr.left {a b : List (Kn Γ)} (h : Agr (a ++ b) az i bs j) : Agr a az i bs j := fun p k hp => h p k (by
 rw [List.getElem?_append_left (List.getElem?_eq_some_iff.mp hp).1]; exact hp)
theorem Agr.right {a b : List (Kn Γ)} {n : Nat} (h : Agr (a ++ b) az i bs j) (hn : a.length = n) : Agr b az (i + n) bs (j + n) := fun p k hp => by
 have := h (n + p) k (by rw [List.getElem?_append_right (by omega), hn, Nat.add_sub_cancel_left]; exact hp)
 rw [← Nat.add_assoc, ← Nat.add_assoc] at this
 exact this
theorem knV_len (v : Value) : (knV (Γ := Γ) v).length = cntV v := by unfold knV cntV; cases v <;> rfl
theorem knC_len (x : CV Γ) : (knC x).length = cntC x := by cases x <;> first | exact knV_len _ | rfl
theorem knL_len : ∀ l : List (CV Γ), (knL l).length = cntL l
 | [] => rfl
 | x :: r => by rw [knL, cntL, List.length_append, knC_len, knL_len r]
theorem knT_len (x : TV Γ) : (knT x).length = cntT x := by cases x <;> first | exact knC_len _ | exact knL_len _
theorem knTs_len : ∀ l : List (TV Γ), (knTs l).length = cntTs l
 | [] => rfl
 | x :: r => by rw [knTs, cntTs, List.length_append, knT_len, knTs_len r]
theorem knA_len (x : AV Γ) : (knA x).length = cntA x := by cases x <;> first | exact knT_len _ | exact knTs_len _
theorem knB_len (x : Blk Γ) : (knB x).length = cntB x := by cases x <;> first | exact knL_len _ | rfl
theorem fillV_agr {v : Value} (h : Agr (knV v) az i bs j) : fillV az i v = fillV bs j v := by
 cases v <;> first
  | rfl
  | (have h := h.head; simp only [Kn.get] at h; simp only [fillV, h])
theorem fillC_agr {x : CV Γ} (h : Agr (knC x) az i bs j) : fillC az i x = fillC bs j x := by
 cases x with
 | c v => rw [fillC, fillC, fillV_agr h]
 | sl q e l => have h := h.head; simp only [Kn.get] at h; simp only [fillC, h]
 | rowp s e i o => have h := h.head; simp only [Kn.get] at h; simp only [fillC, h]
 | elp q e x o => have h := h.head; simp only [Kn.get] at h; simp only [fillC, h]
 | _ => rfl
theorem fillL_agr : ∀ {l : List (CV Γ)} {i j : Nat}, Agr (knL l) az i bs j → fillL az i l = fillL bs j l
 | [], _, _, _ => rfl
 | x :: r, i, j, h => by rw [fillL, fillL, fillC_agr h.left, fillL_agr (h.right (knC_len x))]
theorem fillT_agr {x : TV Γ} (h : Agr (knT x) az i bs j) : fillT az i x = fillT bs j x := by
 cases x with
 | cell x => rw [fillT, fillT, fillC_agr h]
 | agg l => rw [fillT, fillT, fillL_agr h]
theorem fillTs_agr : ∀ {l : List (TV Γ)} {i j : Nat}, Agr (knTs l) az i bs j → fillTs az i l = fillTs bs j l
 | [], _, _, _ => rfl
 | x :: r, i, j, h => by rw [fillTs, fillTs, fillT_agr h.left, fillTs_agr (h.right (knT_len x))]
theorem fillA_agr {x : AV Γ} (h : Agr (knA x) az i bs j) : fillA az i x = fillA bs j x := by
 cases x with
 | t x => rw [fillA, fillA, fillT_agr h]
 | tup l => rw [fillA, fillA, fillTs_agr h]
theorem fillB_agr {x : Blk Γ} (h : Agr (knB x) az i bs j) : fillB az i x = fillB bs j x := by
 cases x with
 | box t cs => rw [fillB, fillB, fillL_agr h]
 | row q e l => have h := h.head; simp only [Kn.get] at h; simp only [fillB, h]
 | cold q e l => have h := h.head; simp only [Kn.get] at h; simp only [fillB, h]
 | obj κ d => have h := h.head; simp only [Kn.get] at h; simp only [fillB, h]
theorem fillM_agr : ∀ {m : Mem Γ} {i j : Nat}, Agr (knM m) az i bs j → fillM az i m = fillM bs j m
 | [], _, _, _ => rfl
 | (s, b) :: r, i, j, h => by rw [fillM, fillM, fillB_agr h.left, fillM_agr (h.right (knB_len b))]
theorem let_fill (res : AV Γ) (left : Mem Γ) (az : List (Atom Γ)) : fillA (letK (knA res ++ knM left) (tupK (knA res ++ knM left) 0 az)) 0 res = fillA az 0 res ∧ fillM (letK (knA res ++ knM left) (tupK (knA res ++ knM left) 0 az)) (cntA res) left = fillM az (cntA res) left := by
 have h : Agr (knA res ++ knM left) (letK (knA res ++ knM left) (tupK (knA res ++ knM left) 0 az)) 0 az 0 := fun p k hp => by
  rw [Nat.zero_add]
  refine Kn.get_at ?_
  rw [letK_at az _ 0 p k hp, Nat.zero_add]
 have h2 := h.right (knA_len res)
 rw [Nat.zero_add] at h2
 exact ⟨fillA_agr h.left, fillM_agr h2⟩
end
structure FnOk (T : Tab) (P : Program) where
 id : FuncId
 F : EvForm T.Γ
 ok : CallOk T P id F.fn
variable {T : Tab} {P : Program}
def fnsOf : List (FnOk T P) → List (Nat × FnS T.Γ)
 | [] => []
 | o :: r => (o.id, o.F.fn) :: fnsOf r
theorem fnsOf_ok : ∀ (os : List (FnOk T P)), ∀ p ∈ fnsOf os, CallOk T P p.1 p.2
 | [], p, hp => by cases hp
 | o :: r, p, hp => by
  cases hp with
  | head => exact o.ok
  | tail _ hp => exact fnsOf_ok r p hp
theorem cutC_zero {Γ : Sig} {R : Type} : ∀ {cs : List (CutF Γ R)}, (∀ c ∈ cs, ∀ az, c.f 0 az = none) → ∀ n az, cutC cs 0 n az = none
 | [], _, _, _ => rfl
 | c :: r, h, n, az => by
  rw [cutC]
  split
  ·exact h c List.mem_cons_self az
  ·exact cutC_zero (fun c hc => h c (List.mem_cons_of_mem _ hc)) n az
theorem cutPs_mem {Γ : Sig} {R : Type} : ∀ {cs : List (CutF Γ R)} {p : Nat × St Γ}, p ∈ cutPs cs → ∃ c ∈ cs, p = (c.n, c.p)
 | [], p, h => by cases h
 | c :: r, p, h => by
  cases h with
  | head => exact ⟨c, List.mem_cons_self, rfl⟩
  | tail _ h => obtain ⟨c, hc, e⟩ := cutPs_mem h; exact ⟨c, List.mem_cons_of_mem _ hc, e⟩
def mkO (hT : TabOk T P) (id : FuncId) {fn : Func} (hfn : P.funcs[id]? = some fn) (os : List (FnOk T P)) (refs : List Nat) (args : List (AV T.Γ)) (lent : Mem T.Γ) (res : AV T.Γ) (left : Mem T.Γ)
  (f : Nat → ArgT (knAs args ++ knM lent) (Option (TupT (knA res ++ knM left)))) (cs : List (CutF T.Γ (TupT (knA res ++ knM left))))
  (hf : ∀ k az, (mkF refs args lent res left f).f k az = runL T P (findP (fnsOf os)) (cutLv cs) fn k (Lof (cutPs cs) (cutC cs) k) (fillAs az 0 args) (fillM az (cntAs args) lent) (mkF refs args lent res left f).dec := by intro k az; kernel_rfl)
  (hC : ∀ c ∈ cs, ∀ k az, cutC cs (k + 1) c.n az = stepAt T P (findP (fnsOf os)) (cutLv cs) fn (mkF refs args lent res left f).dec (Lof (cutPs cs) (cutC cs)) k c.n (fillSt az c.p) := by repeat (first | exact all_nil | refine all_cons (fun k az => by kernel_rfl) ?_))
  (h0 : ∀ c ∈ cs, ∀ az, c.f 0 az = none := by repeat (first | exact all_nil | refine all_cons (fun az => rfl) ?_))
  (hn : (fn.name == "runtime.NumGoroutine") = false := by kernel_rfl) (hb : fn.body.isNone = false := by kernel_rfl) : FnOk T P :=
 ⟨id, mkF refs args lent res left f, fn_ok hT (fnsOf os) (fnsOf_ok os) hfn hn hb (cutLv cs) _ (cutPs cs) (cutC cs) (cutC_zero h0) (fun p hp k az => by
  obtain ⟨c, hc, rfl⟩ := cutPs_mem hp
  exact hC c hc k az) hf (let_fill res left)⟩
end Go.Proofs.YtbbpcbjgekencaaGreatDoor.Ev
end
section
set_option linter.unusedVariables false
set_option linter.unusedSimpArgs false
set_option linter.unusedVariables false
set_option linter.unusedSimpArgs false
namespace Go.Proofs.YtbbpcbjgekencaaGreatDoorW.PrintWords
open Go.RowKit
structure Aside0 (p : Prop) : Prop where mk :: (out : p)
structure Drawn0 (w w' : World) : Prop where mk :: (out : ∃ n, w' = w.drewN n)
theorem Drawn0.refl (w : World) : Drawn0 w w := ⟨⟨0, rfl⟩⟩
theorem Drawn0.below {w w' : World} (h : Drawn0 w w') : Below w.heap.size w w' := by
 obtain ⟨n, rfl⟩ := h
 induction n with
 | zero => exact Below.refl _ _
 | succ n ih => rw [← World.drew_drewN]; exact ih.drew
def rd (xs : List Int) (i : Int) : Int := xs.getD i.toNat 0
def bt (s : ByteArray) (i : Int) : Int := if h : i.toNat < s.size then ((s[i.toNat]'h).toNat : Int) else 0
theorem below_alloc {w W : World} (h : Below w.heap.size w W) (o : Obj) : Below w.heap.size w (W.alloc o) := h.alloc h.size o
theorem pw_below_drewN {B : Nat} {w W : World} (h : Below B w W) (n : Nat) : Below B w (W.drewN n) := ⟨h.os, h.tape, h.output, h.size, h.block⟩
theorem below_then {B : Nat} {w w1 w2 : World} (h : Below B w w1) (hB : B ≤ w1.heap.size) (k : Below w1.heap.size w1 w2) : Below B w w2 :=
 h.trans ⟨k.os, k.tape, k.output, k.size, fun i hi => k.block i (Nat.lt_of_lt_of_le hi hB)⟩
theorem grown_of_below {w w1 : World} (h : Below w.heap.size w w1) (row : Option Nat) : w.grownBy w1 row := ⟨h.os, h.tape, h.output, h.size, fun i hi _ => h.block i hi⟩
theorem pw_cell_below {w w1 : World} (h : Below w.heap.size w w1) {a : Addr} {v : Value} (hc : w.cell? a = some v) : w1.cell? a = some v := (h.cell (World.block_lt_of_cell? w a hc)).trans hc
theorem own_nil (W : World) (base : Nat) (e : TypeId) (size : Nat) : W.ownsRow base e size (.slice none 0 0) 0 [] := ⟨by simp, .inl ⟨rfl, rfl⟩⟩
theorem own_base {w : World} {base : Nat} {e : TypeId} {size n : Nat} {v : Value} {xs : List Value} (h : w.ownsRow base e size v n xs) (k : Nat) (hk : v.ownBlock = some k) : base ≤ k := by
 rcases h.2 with ⟨rfl, _⟩ | ⟨g, cap, cur, rfl, hb, _⟩
 ·simp [Value.ownBlock] at hk
 ·have : g = k := by simpa [Value.ownBlock] using hk
  omega
theorem own_lt {w : World} {base : Nat} {e : TypeId} {size n : Nat} {v : Value} {xs : List Value} (h : w.ownsRow base e size v n xs) (k : Nat) (hk : v.ownBlock = some k) : k < w.heap.size := by
 rcases h.2 with ⟨rfl, _⟩ | ⟨g, cap, cur, rfl, hb, hh, _⟩
 ·simp [Value.ownBlock] at hk
 ·have : g = k := by simpa [Value.ownBlock] using hk
  subst this
  exact (Array.getElem?_eq_some_iff.1 hh).1
def Reps {α : Type} (R : α → List Value → Prop) (size : Nat) (ps : List α) (cs : List Value) : Prop :=
 cs.length = ps.length * size ∧ ∀ j p, ps[j]? = some p → R p ((cs.drop (j * size)).take size)
theorem Reps.none {α : Type} (R : α → List Value → Prop) (size : Nat) : Reps R size [] [] := ⟨by simp, fun j p h => by simp at h⟩
theorem Reps.imp_ {α : Type} {R R' : α → List Value → Prop} {size : Nat} {ps : List α} {cs : List Value} (h : Reps R size ps cs) (hR : ∀ p c, R p c → R' p c) : Reps R' size ps cs := ⟨h.1, fun j p hj => hR _ _ (h.2 j p hj)⟩
def ReadsRow {α : Type} (R : α → List Value → Prop) (size : Nat) (w : World) (A : Option Addr) (n : Nat) (ps : List α) : Prop :=
 ps.length = n ∧ n ≤ 9223372036854775807 ∧ (0 < n → ∃ ad, A = some ad ∧ ∀ j p, ps[j]? = some p → ∃ c, c.length = size ∧ R p c ∧ ∀ i u, c[i]? = some u → w.cell? (ad.add (j * size + i)) = some u)
theorem ReadsRow.get_ {α : Type} {R : α → List Value → Prop} {size : Nat} {w : World} {A : Option Addr} {n : Nat} {ps : List α} (h : ReadsRow R size w A n ps) (d : α) (i : Int) (h0 : 0 ≤ i) (h1 : i < n) :
  ∃ ad c, A = some ad ∧ c.length = size ∧ R (ps.getD i.toNat d) c ∧ ∀ j u, c[j]? = some u → w.cell? (ad.add (i.toNat * size + j)) = some u := by
 obtain ⟨ad, e, hc⟩ := h.2.2 (by omega)
 have hl : i.toNat < ps.length := by have := h.1; omega
 obtain ⟨c, hs, hr, hcell⟩ := hc i.toNat _ (List.getElem?_eq_getElem hl)
 refine ⟨ad, c, e, hs, ?_, hcell⟩
 rw [List.getD_eq_getElem?_getD, List.getElem?_eq_getElem hl]
 exact hr
theorem ReadsRow.imp_ {α : Type} {R R' : α → List Value → Prop} {size : Nat} {w w1 : World} {A : Option Addr} {n : Nat} {ps : List α} (h : ReadsRow R size w A n ps) (hb : Below w.heap.size w w1) (hR : ∀ p c, R p c → R' p c) : ReadsRow R' size w1 A n ps :=
 ⟨h.1, h.2.1, fun hn => by
  obtain ⟨ad, e, hc⟩ := h.2.2 hn
  refine ⟨ad, e, fun j p hj => ?_⟩
  obtain ⟨c, hs, hr, hcell⟩ := hc j p hj
  exact ⟨c, hs, hR _ _ hr, fun i u hu => pw_cell_below hb (hcell i u hu)⟩⟩
theorem own_reads_row {α : Type} {R : α → List Value → Prop} {w : World} {base n size : Nat} {e : TypeId} {v : Value} {ps : List α} {cs : List Value} (h : w.ownsRow base e size v n cs) (hR : Reps R size ps cs) (hn : ps.length = n) :
  ∃ A c, v = .slice A n c ∧ ReadsRow R size w A n ps := by
 rcases Nat.eq_zero_or_pos n with h0 | h0
 ·rcases h.2 with ⟨rfl, rfl⟩ | ⟨g, cap, cur, rfl, _⟩
  ·exact ⟨none, 0, rfl, hn, by omega, fun hp => absurd hp (by omega)⟩
  ·exact ⟨_, cap, rfl, hn, by omega, fun hp => absurd hp (by omega)⟩
 ·obtain ⟨g, cap, rfl, _, _⟩ := h.form h0
  have hm : n ≤ 9223372036854775807 := by
   rcases h.2 with ⟨_, h1⟩ | ⟨g', cap', cur, he, _, _, h1, h2, _⟩
   ·omega
   ·simp only [maxLen] at h2
    omega
  refine ⟨_, cap, rfl, hn, hm, fun _ => ⟨_, rfl, fun j p hj => ⟨(cs.drop (j * size)).take size, ?_, hR.2 j p hj, fun i u hu => ?_⟩⟩⟩
  ·have hjl := (List.getElem?_eq_some_iff.1 hj).1
   have h1 : j * size + size ≤ cs.length := by rw [hR.1, ← Nat.succ_mul]; exact Nat.mul_le_mul_right _ hjl
   rw [List.length_take, List.length_drop]
   omega
  ·refine h.cells (g := g) rfl _ u ?_
   rw [List.getElem?_take] at hu
   split at hu
   ·rw [List.getElem?_drop] at hu
    exact hu
   ·cases hu
theorem add_field (ad : Addr) (m j : Nat) (hj : 0 < j) : ad.add (m + j) = ⟨(ad.add m).block, (ad.add m).off + j, none⟩ := by
 unfold Addr.add
 by_cases hm : m = 0
 ·subst hm
  simp [Nat.ne_of_gt hj]
 ·simp [hm, Nat.add_assoc]
theorem blk_set {w : World} {g : Nat} {t : TypeId} {cs : Array Value} (h : w.heap[g]? = some (.cells cs t (0, 0))) (i : Nat) (u : Value) : (w.setCell ⟨g, i, none⟩ u).heap[g]? = some (.cells (cs.setIfInBounds i u) t (0, 0)) := by
 simp [World.setCell, Array.getElem?_modify, h]
theorem blk_lt {w : World} {g : Nat} {o : Obj} (h : w.heap[g]? = some o) : g < w.heap.size := (Array.getElem?_eq_some_iff.1 h).1
theorem blk_cell {w : World} {g : Nat} {t : TypeId} {cs : Array Value} (h : w.heap[g]? = some (.cells cs t (0, 0))) (i : Nat) : w.cell? ⟨g, i, none⟩ = cs[i]? := cell_of_row w g i cs t (0, 0) h
theorem blk_frozen {w : World} {g : Nat} {t : TypeId} {cs : Array Value} (h : w.heap[g]? = some (.cells cs t (0, 0))) (i : Nat) : w.frozen? ⟨g, i, none⟩ = false := by simp [World.frozen?, h]
theorem blk_grown {w w1 : World} {g : Nat} {o : Obj} {row : Option Nat} (h : w.heap[g]? = some o) (hg : w.grownBy w1 row) (hne : some g ≠ row) : w1.heap[g]? = some o := (hg.block g (blk_lt h) hne).trans h
theorem own_weaken {w : World} {base base' : Nat} {e : TypeId} {size n : Nat} {v : Value} {xs : List Value} (h : w.ownsRow base e size v n xs) (hb : base' ≤ base) : w.ownsRow base' e size v n xs := by
 obtain ⟨h1, h2⟩ := h
 refine ⟨h1, ?_⟩
 rcases h2 with h2 | ⟨g, cap, cur, rfl, hg, r⟩
 ·exact .inl h2
 ·exact .inr ⟨g, cap, cur, rfl, Nat.le_trans hb hg, r⟩
section
variable {α : Type} {enc : α → Value} {d : α}
def encs (enc : α → Value) (xs : List α) : List Value := xs.map enc
def rdOf (d : α) (xs : List α) (i : Int) : α := xs.getD i.toNat d
theorem encs_length (xs : List α) : (encs enc xs).length = xs.length := by simp [encs]
theorem encs_append (xs ys : List α) : encs enc (xs ++ ys) = encs enc xs ++ encs enc ys := by simp [encs]
def ReadsOf (enc : α → Value) (d : α) (w : World) (A : Option Addr) (n : Nat) (xs : List α) : Prop :=
 xs.length = n ∧ n ≤ 9223372036854775807 ∧ (0 < n → ∃ ad, A = some ad ∧ ∀ j, j < n → w.cell? (ad.add j) = some (enc (xs.getD j d)))
theorem ReadsOf.at_ {w : World} {A : Option Addr} {n : Nat} {xs : List α} (h : ReadsOf enc d w A n xs) (i : Int) (h0 : 0 ≤ i) (h1 : i < n) : ∃ ad, A = some ad ∧ w.cell? (ad.add i.toNat) = some (enc (rdOf d xs i)) := by
 obtain ⟨ad, e, hc⟩ := h.2.2 (by omega)
 exact ⟨ad, e, hc _ (by omega)⟩
end
theorem blk_alloc {w : World} {g : Nat} {o : Obj} (h : w.heap[g]? = some o) (o' : Obj) : (w.alloc o').heap[g]? = some o := (Below.heap_alloc w o' g (blk_lt h)).trans h
theorem blk_drewN {w : World} {g : Nat} {o : Obj} (h : w.heap[g]? = some o) (n : Nat) : (w.drewN n).heap[g]? = some o := h
theorem blk_below {w w1 : World} {g : Nat} {o : Obj} (h : w.heap[g]? = some o) (hb : Below w.heap.size w w1) : w1.heap[g]? = some o := (hb.block g (blk_lt h)).trans h
theorem blk_new (w : World) (o : Obj) : (w.alloc o).heap[w.heap.size]? = some o := heap_alloc_new w o
section
variable {P : Program}
theorem results_ct {fn : Func} {p u : Tmp} {ty : TypeId} (h : fn.results = #[.cell p ty, .tmp u]) (tmps : Array Value) (w : World) (g : Nat) (t : TypeId) (cs : Array Value) (fr : Nat × Nat) (d : TypeDesc)
  (hp : tmps.getD p undef = .pointer (some ⟨g, 0, none⟩)) (hg : w.heap[g]? = some (.cells cs t fr))
  (hu : P.underlying ty = some d) (hd : (match d with | .struct _ | .array _ _ => true | _ => false) = true) (hi : (P.info? ty).map (·.size) = some cs.size) :
  (results fn tmps).run P w = .ok (.tuple #[.agg cs, tmps.getD u undef]) w := by
 have hp' : tmps[p]?.getD undef = .pointer (some ⟨g, 0, none⟩) := by simpa using hp
 simp [results, h, hp', asAddr, run_loadVar_row w g t ty cs fr d hg hu hd hi]
end
theorem own_le {w : World} {base n m c size : Nat} {e : TypeId} {A : Option Addr} {xs : List Value} (h : w.ownsRow base e size (.slice A m c) n xs) : m ≤ c := by
 rcases h.2 with ⟨he, _⟩ | ⟨g, cap, cur, he, _, _, hnc, _⟩
 ·injection he with _ h2 h3
  omega
 ·injection he with _ h2 h3
  omega
def OwnRow {α : Type} (R : α → List Value → Prop) (e : TypeId) (size : Nat) (w : World) (base : Nat) (v : Value) (ps : List α) : Prop :=
 ∃ inner, w.ownsRow base e size v ps.length inner ∧ Reps R size ps inner
section
variable {α : Type} {R R' : α → List Value → Prop} {e : TypeId} {size : Nat} {w w1 : World} {base : Nat} {v : Value} {ps : List α}
theorem OwnRow.none_ (R : α → List Value → Prop) (e : TypeId) (size : Nat) (w : World) (base : Nat) : OwnRow R e size w base (.slice none 0 0) [] := ⟨[], own_nil _ _ _ _, Reps.none _ _⟩
theorem OwnRow.imp_ (h : OwnRow R e size w base v ps) (hR : ∀ p c, R p c → R' p c) : OwnRow R' e size w base v ps := by
 obtain ⟨inner, ho, hr⟩ := h
 exact ⟨inner, ho, hr.imp_ hR⟩
theorem OwnRow.reads (h : OwnRow R e size w base v ps) : ∃ A c, v = .slice A ps.length c ∧ ps.length ≤ c ∧ ReadsRow R size w A ps.length ps := by
 obtain ⟨inner, ho, hr⟩ := h
 obtain ⟨A, c, rfl, hrow⟩ := own_reads_row ho hr rfl
 exact ⟨A, c, rfl, own_le ho, hrow⟩
end
structure Kd (α : Type) where
 sz : Nat
 E : List Nat
 K : World → α → List Value → Prop
 M : World → Nat → (Nat → Prop) → α → List Value → Prop
 K_len : ∀ {w x cs}, K w x cs → cs.length = sz
 K_one : ∀ {w x cs}, K w x cs → ∀ u ∈ cs, u.oneCell' = true
 K_below : ∀ {w w1 : World} {x cs}, Below w.heap.size w w1 → K w x cs → K w1 x cs
 K_of_M : ∀ {w base ok x cs}, M w base ok x cs → K w x cs
 M_mono : ∀ {w base ok ok' x cs}, (∀ k, ok k → ok' k) → M w base ok x cs → M w base ok' x cs
 M_bound : ∀ {w : World} {base ok x cs}, M w base ok x cs → M w base (fun k => ok k ∧ base ≤ k ∧ k < w.heap.size ∧ ∃ q, q ∈ E ∧ ∃ cells, w.heap[k]? = some (.cells cells q (0, 0))) x cs
 M_move : ∀ {w w1 : World} {base ok x cs}, (∀ k, ok k → w1.heap[k]? = w.heap[k]?) → M w base ok x cs → M w1 base ok x cs
 M_lower : ∀ {w base base' ok x cs}, base' ≤ base → M w base ok x cs → M w base' ok x cs
theorem own_move {w w1 : World} {base : Nat} {e : TypeId} {size n : Nat} {v : Value} {xs : List Value} (h : w.ownsRow base e size v n xs) (hm : ∀ k, v.ownBlock = some k → w1.heap[k]? = w.heap[k]?) : w1.ownsRow base e size v n xs := by
 obtain ⟨h1, h2⟩ := h
 refine ⟨h1, ?_⟩
 rcases h2 with h2 | ⟨g, cap, cur, rfl, hg, hh, r⟩
 ·exact .inl h2
 ·exact .inr ⟨g, cap, cur, rfl, hg, (hm g (by simp [Value.ownBlock])).trans hh, r⟩
theorem own_typed {w : World} {base : Nat} {e : TypeId} {size n : Nat} {v : Value} {xs : List Value} (h : w.ownsRow base e size v n xs) (k : Nat) (hk : v.ownBlock = some k) : ∃ cells, w.heap[k]? = some (.cells cells e (0, 0)) := by
 rcases h.2 with ⟨rfl, _⟩ | ⟨g, cap, cur, rfl, hg, hh, r⟩
 ·simp [Value.ownBlock] at hk
 ·have : g = k := by simpa [Value.ownBlock] using hk
  subst this
  exact ⟨cur, hh⟩
namespace Kd
def C {α : Type} (d : Kd α) (w : World) (A : Option Addr) (n : Nat) (xs : List α) : Prop := ReadsRow (d.K w) d.sz w A n xs
def R {α : Type} (d : Kd α) (e : Nat) (w : World) (base : Nat) (ok : Nat → Prop) (v : Value) (xs : List α) : Prop :=
 (∀ k, v.ownBlock = some k → ok k) ∧ OwnRow (d.M w base (fun k => ok k ∧ some k ≠ v.ownBlock)) e d.sz w base v xs
section
variable {α : Type} {d : Kd α} {e : Nat} {w w1 : World} {base : Nat} {ok ok' : Nat → Prop} {v : Value} {xs : List α}
theorem C_below {A : Option Addr} {n : Nat} (h : d.C w A n xs) (hb : Below w.heap.size w w1) : d.C w1 A n xs := ReadsRow.imp_ h hb (fun _ _ hp => d.K_below hb hp)
theorem R_mono (h : d.R e w base ok v xs) (hok : ∀ k, ok k → ok' k) : d.R e w base ok' v xs := ⟨fun k hk => hok k (h.1 k hk), h.2.imp_ (fun _ _ hp => d.M_mono (fun k hk => ⟨hok k hk.1, hk.2⟩) hp)⟩
theorem R_bound (h : d.R e w base ok v xs) : d.R e w base (fun k => ok k ∧ base ≤ k ∧ k < w.heap.size ∧ ∃ q, q ∈ e :: d.E ∧ ∃ cells, w.heap[k]? = some (.cells cells q (0, 0))) v xs := by
 obtain ⟨h0, inner, ho, hr⟩ := h
 refine ⟨fun k hk => ?_, inner, ho, hr.imp_ (fun _ _ hp => d.M_mono (fun k hk => ?_) (d.M_bound hp))⟩
 ·obtain ⟨cells, hc⟩ := own_typed ho k hk
  exact ⟨h0 k hk, own_base ho k hk, own_lt ho k hk, e, List.mem_cons_self, cells, hc⟩
 ·obtain ⟨⟨h1, h2⟩, h3, h4, q, hq, hc⟩ := hk
  exact ⟨⟨h1, h3, h4, q, List.mem_cons_of_mem _ hq, hc⟩, h2⟩
theorem R_move (h : d.R e w base ok v xs) (hm : ∀ k, ok k → w1.heap[k]? = w.heap[k]?) : d.R e w1 base ok v xs := by
 obtain ⟨h0, inner, ho, hr⟩ := h
 exact ⟨h0, inner, own_move ho (fun k hk => hm k (h0 k hk)), hr.imp_ (fun _ _ hp => d.M_move (fun k hk => hm k hk.1) hp)⟩
theorem R_lower {base' : Nat} (h : d.R e w base ok v xs) (hb : base' ≤ base) : d.R e w base' ok v xs := by
 obtain ⟨h0, inner, ho, hr⟩ := h
 exact ⟨h0, inner, own_weaken ho hb, hr.imp_ (fun _ _ hp => d.M_lower hb hp)⟩
theorem R_step (h : d.R e w base ok v xs) (hm : ∀ k, ok k → k < w.heap.size → w1.heap[k]? = w.heap[k]?) : d.R e w1 base ok v xs :=
 R_mono (R_move (R_bound h) (fun k hk => hm k hk.1 hk.2.2.1)) (fun _ hk => hk.1)
theorem R_reads (h : d.R e w base ok v xs) : ∃ A c, v = .slice A xs.length c ∧ xs.length ≤ c ∧ d.C w A xs.length xs := by
 obtain ⟨A, c, he, hl, hr⟩ := OwnRow.reads h.2
 exact ⟨A, c, he, hl, hr.imp_ (Below.refl _ _) (fun _ _ hp => d.K_of_M hp)⟩
theorem R_slice (h : d.R e w base ok v xs) : ∃ A c, v = .slice A xs.length c := by
 obtain ⟨A, c, he, _⟩ := R_reads h
 exact ⟨A, c, he⟩
end
def scalar {α : Type} (enc : α → Value) (h1 : ∀ x, (enc x).oneCell' = true) : Kd α where
 sz := 1
 E := []
 K := fun _ x cs => cs = [enc x]
 M := fun _ _ _ x cs => cs = [enc x]
 K_len := fun h => by rw [h]; rfl
 K_one := fun h u hu => by
  rw [h] at hu
  rw [List.mem_singleton.1 hu]
  exact h1 _
 K_below := fun _ h => h
 K_of_M := fun h => h
 M_mono := fun _ h => h
 M_bound := fun h => h
 M_move := fun _ h => h
 M_lower := fun _ h => h
def int (k : IntKind) : Kd Int := scalar (Value.int k) (fun _ => rfl)
def bool : Kd Bool := scalar Value.bool (fun _ => rfl)
def string : Kd ByteArray := scalar Value.string (fun _ => rfl)
def slice {α : Type} (e : Nat) (d : Kd α) : Kd (List α) where
 sz := 1
 E := e :: d.E
 K := fun w xs cs => ∃ A c, cs = [.slice A xs.length c] ∧ xs.length ≤ c ∧ d.C w A xs.length xs
 M := fun w base ok xs cs => ∃ v, cs = [v] ∧ d.R e w base ok v xs
 K_len := by
  rintro w x cs ⟨A, c, rfl, _⟩
  rfl
 K_one := by
  rintro w x cs ⟨A, c, rfl, _⟩ u hu
  rw [List.mem_singleton.1 hu]
  rfl
 K_below := by
  rintro w w1 x cs hb ⟨A, c, rfl, hl, hr⟩
  exact ⟨A, c, rfl, hl, C_below hr hb⟩
 K_of_M := by
  rintro w base ok x cs ⟨v, rfl, h⟩
  obtain ⟨A, c, rfl, hl, hr⟩ := R_reads h
  exact ⟨A, c, rfl, hl, hr⟩
 M_mono := by
  rintro w base ok ok' x cs hok ⟨v, rfl, h⟩
  exact ⟨v, rfl, R_mono h hok⟩
 M_bound := by
  rintro w base ok x cs ⟨v, rfl, h⟩
  exact ⟨v, rfl, R_bound h⟩
 M_move := by
  rintro w w1 base ok x cs hm ⟨v, rfl, h⟩
  exact ⟨v, rfl, R_move h hm⟩
 M_lower := by
  rintro w base base' ok x cs hb ⟨v, rfl, h⟩
  exact ⟨v, rfl, R_lower h hb⟩
def pair {α β : Type} (a : Kd α) (b : Kd β) : Kd (α × β) where
 sz := a.sz + b.sz
 E := a.E ++ b.E
 K := fun w x cs => ∃ c0 c1, cs = c0 ++ c1 ∧ a.K w x.1 c0 ∧ b.K w x.2 c1
 M := fun w base ok x cs => ∃ c0 c1, cs = c0 ++ c1 ∧ a.M w base ok x.1 c0 ∧ b.M w base ok x.2 c1
 K_len := by
  rintro w x cs ⟨c0, c1, rfl, h0, h1⟩
  rw [List.length_append, a.K_len h0, b.K_len h1]
 K_one := by
  rintro w x cs ⟨c0, c1, rfl, h0, h1⟩ u hu
  rcases List.mem_append.1 hu with hu | hu
  ·exact a.K_one h0 u hu
  ·exact b.K_one h1 u hu
 K_below := by
  rintro w w1 x cs hb ⟨c0, c1, rfl, h0, h1⟩
  exact ⟨c0, c1, rfl, a.K_below hb h0, b.K_below hb h1⟩
 K_of_M := by
  rintro w base ok x cs ⟨c0, c1, rfl, h0, h1⟩
  exact ⟨c0, c1, rfl, a.K_of_M h0, b.K_of_M h1⟩
 M_mono := by
  rintro w base ok ok' x cs hok ⟨c0, c1, rfl, h0, h1⟩
  exact ⟨c0, c1, rfl, a.M_mono hok h0, b.M_mono hok h1⟩
 M_bound := by
  rintro w base ok x cs ⟨c0, c1, rfl, h0, h1⟩
  refine ⟨c0, c1, rfl, a.M_mono ?_ (a.M_bound h0), b.M_mono ?_ (b.M_bound h1)⟩
  ·rintro k ⟨h2, h3, h4, q, hq, hc⟩
   exact ⟨h2, h3, h4, q, List.mem_append_left _ hq, hc⟩
  ·rintro k ⟨h2, h3, h4, q, hq, hc⟩
   exact ⟨h2, h3, h4, q, List.mem_append_right _ hq, hc⟩
 M_move := by
  rintro w w1 base ok x cs hm ⟨c0, c1, rfl, h0, h1⟩
  exact ⟨c0, c1, rfl, a.M_move hm h0, b.M_move hm h1⟩
 M_lower := by
  rintro w base base' ok x cs hb ⟨c0, c1, rfl, h0, h1⟩
  exact ⟨c0, c1, rfl, a.M_lower hb h0, b.M_lower hb h1⟩
def iso {α β : Type} (d : Kd α) (f : β → α) : Kd β where
 sz := d.sz
 E := d.E
 K := fun w x cs => d.K w (f x) cs
 M := fun w base ok x cs => d.M w base ok (f x) cs
 K_len := d.K_len
 K_one := d.K_one
 K_below := d.K_below
 K_of_M := d.K_of_M
 M_mono := d.M_mono
 M_bound := d.M_bound
 M_move := d.M_move
 M_lower := d.M_lower
theorem C_get {α : Type} {d : Kd α} {w : World} {A : Option Addr} {n : Nat} {xs : List α} (h : d.C w A n xs) (z : α) (i : Int) (h0 : 0 ≤ i) (h1 : i < n) :
  ∃ ad c, A = some ad ∧ c.length = d.sz ∧ d.K w (xs.getD i.toNat z) c ∧ ∀ j u, c[j]? = some u → w.cell? (ad.add (i.toNat * d.sz + j)) = some u := ReadsRow.get_ h z i h0 h1
theorem C_of_reads {α : Type} {enc : α → Value} {d : α} {h1 : ∀ x, (enc x).oneCell' = true} {w : World} {A : Option Addr} {n : Nat} {xs : List α} (h : ReadsOf enc d w A n xs) : (scalar enc h1).C w A n xs := by
 refine ⟨h.1, h.2.1, fun hn => ?_⟩
 obtain ⟨ad, e, hc⟩ := h.2.2 hn
 refine ⟨ad, e, fun j p hj => ⟨[enc p], rfl, rfl, fun i u hu => ?_⟩⟩
 obtain ⟨hl, hp⟩ := List.getElem?_eq_some_iff.1 hj
 have h2 := hc j (by have := h.1; omega)
 rw [List.getD_eq_getElem?_getD, hj] at h2
 cases i with
 | zero =>
  have : enc p = u := by simpa using hu
  subst this
  simpa [scalar] using h2
 | succ i => simp at hu
theorem reads_of_C {α : Type} {enc : α → Value} {d : α} {h1 : ∀ x, (enc x).oneCell' = true} {w : World} {A : Option Addr} {n : Nat} {xs : List α} (h : (scalar enc h1).C w A n xs) : ReadsOf enc d w A n xs := by
 refine ⟨h.1, h.2.1, fun hn => ?_⟩
 obtain ⟨ad, e, hc⟩ := h.2.2 hn
 refine ⟨ad, e, fun j hj => ?_⟩
 have hl : j < xs.length := by have := h.1; omega
 obtain ⟨c, _, hK, hcell⟩ := hc j _ (List.getElem?_eq_getElem hl)
 have hK' : c = [enc xs[j]] := hK
 subst hK'
 have := hcell 0 _ rfl
 simpa [scalar, List.getD_eq_getElem?_getD, List.getElem?_eq_getElem hl] using this
end Kd
namespace Kd
def Sub {α β : Type} (F : Kd α → Kd β) (E : List Nat) : Prop := ∀ d : Kd α, (∀ q, q ∈ d.E → q ∈ E) → ∀ q, q ∈ (F d).E → q ∈ E
end Kd
namespace Kd
section
variable {α β : Type} {d : Kd α} {d' : Kd β} {e e' : Nat} {w w1 W : World} {base b b' : Nat} {ok ok' okv oku : Nat → Prop} {v u : Value} {xs : List α} {ys : List β}
theorem C_nil (d : Kd α) (w : World) : d.C w none ([] : List α).length [] := ⟨rfl, by simp, fun h => absurd h (Nat.lt_irrefl 0)⟩
theorem R_reads' {A : Option Addr} {n c : Nat} (h : d.R e w base ok (.slice A n c) xs) : n = xs.length ∧ n ≤ c ∧ d.C w A xs.length xs := by
 obtain ⟨A', c', he, hl, hr⟩ := R_reads h
 injection he with h1 h2 h3
 subst h1
 exact ⟨h2, by omega, hr⟩
end
section
variable {w W : World} {A : Option Addr} {n : Nat}
theorem at_int {k : IntKind} {xs : List Int} (h : (Kd.int k).C w A n xs) (i : Int) (h0 : 0 ≤ i) (h1 : i < n) : ∃ ad, A = some ad ∧ w.cell? (ad.add i.toNat) = some (.int k (rd xs i)) :=
 ReadsOf.at_ (reads_of_C (enc := Value.int k) (d := (0 : Int)) (h1 := fun _ => rfl) h) i h0 h1
variable {α : Type} {enc : α → Value} {h1 : ∀ x, (enc x).oneCell' = true} {e base g cap : Nat} {ok : Nat → Prop} {xs : List α}
end
end Kd
def QRow (w : World) (base : Nat) (e : TypeId) (size : Nat) (v : Value) (n : Nat) (xs : List Value) : Prop :=
  xs.length = n * size ∧
  ((n = 0 ∧ ∃ A, v = .slice A 0 0 ∧ ∀ a, A = some a → base ≤ a.block ∧ ∃ cur, w.heap[a.block]? = some (.cells cur e (0, 0))) ∨
   ∃ g off cap cur, v = .slice (some ⟨g, off * size, none⟩) n cap ∧ base ≤ g ∧ w.heap[g]? = some (.cells cur e (0, 0)) ∧ n ≤ cap ∧ off + cap ≤ maxLen ∧ cur.size = (off + cap) * size ∧ (cur.toList.drop (off * size)).take (n * size) = xs)
section
variable {w w1 : World} {base n size : Nat} {e : TypeId} {v : Value} {xs : List Value}
theorem add_at (g o j : Nat) : (⟨g, o, none⟩ : Addr).add j = ⟨g, o + j, none⟩ := by unfold Addr.add; split <;> simp_all
end
namespace Kd
def Q {α : Type} (d : Kd α) (e : Nat) (w : World) (base : Nat) (ok : Nat → Prop) (v : Value) (xs : List α) : Prop :=
 (∀ k, v.ownBlock = some k → ok k) ∧ ∃ inner, QRow w base e d.sz v xs.length inner ∧ Reps (d.M w base (fun k => ok k ∧ some k ≠ v.ownBlock)) d.sz xs inner
end Kd
namespace Kd
def fixed {α : Type} (d : Kd α) (w0 : World) : Kd α where
 sz := d.sz
 E := []
 K := fun _ x cs => d.K w0 x cs
 M := fun _ _ _ x cs => d.K w0 x cs
 K_len := d.K_len
 K_one := d.K_one
 K_below := fun _ h => h
 K_of_M := fun h => h
 M_mono := fun _ h => h
 M_bound := fun h => h
 M_move := fun _ h => h
 M_lower := fun _ h => h
def or_ {α : Type} (a b : Kd α) (h : b.sz = a.sz) : Kd α where
 sz := a.sz
 E := a.E ++ b.E
 K := fun w x cs => a.K w x cs ∨ b.K w x cs
 M := fun w base ok x cs => a.M w base ok x cs ∨ b.M w base ok x cs
 K_len := fun hk => hk.elim a.K_len (fun hk => (b.K_len hk).trans h)
 K_one := fun hk => hk.elim a.K_one b.K_one
 K_below := fun hb hk => hk.imp (a.K_below hb) (b.K_below hb)
 K_of_M := fun hk => hk.imp a.K_of_M b.K_of_M
 M_mono := fun hok hk => hk.imp (a.M_mono hok) (b.M_mono hok)
 M_bound := fun hk => hk.imp
  (fun hk => a.M_mono (fun _ ⟨h1, h2, h3, q, hq, hc⟩ => ⟨h1, h2, h3, q, List.mem_append_left _ hq, hc⟩) (a.M_bound hk))
  (fun hk => b.M_mono (fun _ ⟨h1, h2, h3, q, hq, hc⟩ => ⟨h1, h2, h3, q, List.mem_append_right _ hq, hc⟩) (b.M_bound hk))
 M_move := fun hm hk => hk.imp (a.M_move hm) (b.M_move hm)
 M_lower := fun hb hk => hk.imp (a.M_lower hb) (b.M_lower hb)
def mix {α : Type} (e : Nat) (d dm : Kd α) (w0 : World) : Kd (List α) := or_ (fixed (slice e d) w0) (slice e dm) rfl
end Kd
theorem below_step {w W w2 : World} (h : Below w.heap.size w W) (k : Below W.heap.size W w2) : Below w.heap.size w w2 := below_then h h.size k
theorem own_less {W : World} {b base n : Nat} {e : TypeId} {size : Nat} {v : Value} {xs : List Value} (h : W.ownsRow b e size v n xs) (hle : base ≤ b) : W.ownsRow base e size v n xs := by
 obtain ⟨h1, h2⟩ := h
 exact ⟨h1, h2.imp id fun ⟨g, cap, cur, he, hb, hr⟩ => ⟨g, cap, cur, he, Nat.le_trans hle hb, hr⟩⟩
theorem below_set {w W : World} {g j : Nat} {v : Value} (h : Below w.heap.size w W) (hg : w.heap.size ≤ g) : Below w.heap.size w (W.setCell ⟨g, j, none⟩ v) := h.setCell hg _
theorem add_block (a : Addr) (i : Nat) : (a.add i).block = a.block := by unfold Addr.add; split <;> rfl
theorem far_of {α : Type} {enc : α → Value} {d : α} {w0 : World} {A : Option Addr} {n g : Nat} {xs : List α} (h : ReadsOf enc d w0 A n xs) (hg : w0.heap.size ≤ g) : ∀ ad, A = some ad → 0 < n → ad.block ≠ g := by
 rintro ad rfl hn
 obtain ⟨ad', h', hc⟩ := h.2.2 hn
 injection h' with h'
 subst h'
 have := World.block_lt_of_cell? w0 _ (hc 0 hn)
 rw [add_block] at this
 omega
theorem blk_put {w : World} {g : Nat} {t : TypeId} {cs cs' : Array Value} (h : w.heap[g]? = some (.cells cs t (0, 0))) (i : Nat) (u : Value) (e : cs.setIfInBounds i u = cs') : (w.setCell ⟨g, i, none⟩ u).heap[g]? = some (.cells cs' t (0, 0)) := e ▸ blk_set h i u
theorem below_drew1 {base : Nat} {w W : World} (h : Below base w W) : Below base w W.drew := h.drew
end Go.Proofs.YtbbpcbjgekencaaGreatDoorW.PrintWords
end
section
set_option linter.unusedVariables false
set_option linter.unusedSimpArgs false
namespace Go.Proofs.YtbbpcbjgekencaaGreatDoorW.PrintLast
section
variable {P : Program} {ops : Array Oper} {Q : Exit → Act → World → Prop} {md : Region.Mode} {S : World → Prop} {ds : List Nat}
def Region.reachB (md : Region.Mode) (ops : Array Oper) (i : Nat) : Nat → Nat → Bool
 | 0, _ => false
 | fuel + 1, d => match ops[d]? with
  | some o => o.after.any fun e => Region.binds md e && (e.on == i || Region.reachB md ops i fuel e.on)
  | none => false
end
end Go.Proofs.YtbbpcbjgekencaaGreatDoorW.PrintLast
end
section
set_option linter.unusedVariables false
set_option linter.unusedSimpArgs false
namespace Go.Proofs.YtbbpcbjgekencaaGreatDoorW.PrintLast
open Go.Proofs.YtbbpcbjgekencaaGreatDoorW.PrintWords (Aside0)
def needsOf (md : Region.Mode) (o : Oper) : List Nat := (o.after.toList.filter (fun e => Region.binds md e)).map (fun e => e.on)
def clashOf (md : Region.Mode) (ops : Array Oper) (i : Nat) (oi : Oper) : List Nat := (List.range ops.size).filter fun j => !(j == i) && match ops[j]? with
 | some oj => !(oj.after.any (fun e => Region.binds md e && e.on == i) || oi.apart ops oj)
 | none => false
def rtab (md : Region.Mode) (ops : Array Oper) : Bool × List (List Nat × List Nat) := (Region.noSelect ops, (List.range ops.size).map fun i => match ops[i]? with
 | some o => (needsOf md o, clashOf md ops i o)
 | none => ([], []))
def readyAt (T : List (List Nat × List Nat)) (l : List Bool) (i : Nat) : Bool := !l.getD i true && match T[i]? with
 | some r => r.1.all (fun j => l.getD j false)
 | none => false
def reachT (T : List (List Nat × List Nat)) (i : Nat) : Nat → Nat → Bool
 | 0, _ => false
 | fuel + 1, d => match T[d]? with
  | some r => r.1.any fun j => j == i || reachT T i fuel j
  | none => false
section
variable {md : Region.Mode} {ops : Array Oper} {T : Bool × List (List Nat × List Nat)} {l l' li lj lk : Array Bool} {ds : List Nat} {i j k : Nat}
theorem gd (l : Array Bool) (j : Nat) (b : Bool) : l.getD j b = l.toList.getD j b := by simp [Array.getD_eq_getD_getElem?, List.getD_eq_getElem?_getD]
theorem needs_any (o : Oper) (p : Nat → Bool) : o.after.any (fun e => Region.binds md e && p e.on) = (needsOf md o).any p := by
 unfold needsOf
 rw [← Array.any_toList]
 induction o.after.toList with
 | nil => rfl
 | cons e r ih =>
  rw [List.any_cons, ih, List.filter_cons]
  cases h : Region.binds md e <;> simp
theorem rtab_length : (rtab md ops).2.length = ops.size := by simp [rtab]
theorem rtab_some {o : Oper} (h : ops[i]? = some o) : (rtab md ops).2[i]? = some (needsOf md o, clashOf md ops i o) := by
 have hi := (Array.getElem?_eq_some_iff.1 h).1
 unfold rtab
 rw [List.getElem?_map, List.getElem?_range hi, Option.map_some, h]
theorem rtab_none (h : ops[i]? = none) : (rtab md ops).2[i]? = none := by
 have hi : ops.size ≤ i := Array.getElem?_eq_none_iff.1 h
 exact List.getElem?_eq_none (by rw [rtab_length]; exact hi)
theorem reach_eq : ∀ (fuel d : Nat), Region.reachB md ops i fuel d = reachT (rtab md ops).2 i fuel d
 | 0, _ => rfl
 | fuel + 1, d => by
  unfold Region.reachB reachT
  cases h : ops[d]? with
  | none => rw [rtab_none h]
  | some o =>
   rw [rtab_some h]
   simp only
   rw [← needs_any]
   congr 1
   funext e
   rw [reach_eq fuel]
end
end Go.Proofs.YtbbpcbjgekencaaGreatDoorW.PrintLast
end
section
set_option linter.unusedVariables false
set_option linter.unusedSimpArgs false
namespace Go.Proofs.YtbbpcbjgekencaaGreatDoorW.PrintWords
open Go.RowKit
namespace Kd
def tag {α : Type} (f : Nat → Nat) (d : Kd α) : Kd (α × Nat) where
 sz := d.sz
 E := d.E
 K := fun w x cs => d.K w x.1 cs
 M := fun w base ok x cs => d.M w base (fun k => ok k ∧ f k = x.2) x.1 cs
 K_len := fun h => d.K_len h
 K_one := fun h => d.K_one h
 K_below := fun hb h => d.K_below hb h
 K_of_M := fun h => d.K_of_M h
 M_mono := fun hok h => d.M_mono (fun k hk => ⟨hok k hk.1, hk.2⟩) h
 M_bound := fun h => d.M_mono (fun _ hk => ⟨⟨hk.1.1, hk.2⟩, hk.1.2⟩) (d.M_bound h)
 M_move := fun hm h => d.M_move (fun k hk => hm k hk.1) h
 M_lower := fun hb h => d.M_lower hb h
def raw (sz : Nat) : Kd (List Value) where
 sz := sz
 E := []
 K := fun _ x cs => cs = x ∧ cs.length = sz ∧ ∀ u ∈ cs, u.oneCell' = true
 M := fun _ _ _ x cs => cs = x ∧ cs.length = sz ∧ ∀ u ∈ cs, u.oneCell' = true
 K_len := fun h => h.2.1
 K_one := fun h => h.2.2
 K_below := fun _ h => h
 K_of_M := fun h => h
 M_mono := fun _ h => h
 M_bound := fun h => h
 M_move := fun _ h => h
 M_lower := fun _ h => h
def S {α : Type} (d : Kd α) (e : Nat) (w : World) (base : Nat) (ok : Nat → Prop) (v : Value) (xs : List α) : Prop := ∃ f, (tag f d).R e w base ok v xs.zipIdx
def gap {α : Type} (f : Nat → Nat) (d : Kd α) (i : Nat) (c : List Value) : Kd (α × Nat) where
 sz := d.sz
 E := d.E
 K := fun w x cs => (x.2 = i → cs = c ∧ cs.length = d.sz ∧ ∀ u ∈ cs, u.oneCell' = true) ∧ (x.2 ≠ i → d.K w x.1 cs)
 M := fun w base ok x cs => (x.2 = i → cs = c ∧ cs.length = d.sz ∧ ∀ u ∈ cs, u.oneCell' = true) ∧ (x.2 ≠ i → d.M w base (fun k => ok k ∧ f k = x.2) x.1 cs)
 K_len := fun {w x cs} h => by
  by_cases hx : x.2 = i
  ·exact (h.1 hx).2.1
  ·exact d.K_len (h.2 hx)
 K_one := fun {w x cs} h => by
  by_cases hx : x.2 = i
  ·exact (h.1 hx).2.2
  ·exact d.K_one (h.2 hx)
 K_below := fun hb h => ⟨h.1, fun hx => d.K_below hb (h.2 hx)⟩
 K_of_M := fun h => ⟨h.1, fun hx => d.K_of_M (h.2 hx)⟩
 M_mono := fun hok h => ⟨h.1, fun hx => d.M_mono (fun k hk => ⟨hok k hk.1, hk.2⟩) (h.2 hx)⟩
 M_bound := fun h => ⟨h.1, fun hx => d.M_mono (fun _ hk => ⟨⟨hk.1.1, hk.2⟩, hk.1.2⟩) (d.M_bound (h.2 hx))⟩
 M_move := fun hm h => ⟨h.1, fun hx => d.M_move (fun k hk => hm k hk.1) (h.2 hx)⟩
 M_lower := fun hb h => ⟨h.1, fun hx => d.M_lower hb (h.2 hx)⟩
def H {α : Type} (d : Kd α) (e : Nat) (w : World) (base : Nat) (ok : Nat → Prop) (v : Value) (xs : List α) (i : Int) (oki : Nat → Prop) (c : List Value) : Prop :=
 (∀ k, oki k → ok k) ∧ ∃ f, (gap f d i.toNat c).R e w base (fun k => ok k ∧ ¬ oki k) v xs.zipIdx
end Kd
end Go.Proofs.YtbbpcbjgekencaaGreatDoorW.PrintWords
end
section
set_option linter.unusedVariables false
set_option linter.unusedSimpArgs false
namespace Go.Proofs.YtbbpcbjgekencaaGreatDoorW.PrintWords
open Go.RowKit
namespace Kd
structure Heap {α : Type} (d : Kd α) : Prop where
 K : ∀ {w w1 : World} {x : α} {cs : List Value}, (∀ k, k < w.heap.size → w1.heap[k]? = w.heap[k]?) → d.K w x cs → d.K w1 x cs
theorem cell_heap {w w1 : World} (hb : ∀ k, k < w.heap.size → w1.heap[k]? = w.heap[k]?) {a : Addr} {v : Value} (h : w.cell? a = some v) : w1.cell? a = some v := by
 have := hb a.block (World.block_lt_of_cell? w a h)
 simpa [World.cell?, this] using h
theorem Heap.C {α : Type} {d : Kd α} (hd : Heap d) {w w1 : World} {A : Option Addr} {n : Nat} {xs : List α} (hb : ∀ k, k < w.heap.size → w1.heap[k]? = w.heap[k]?) (h : d.C w A n xs) : d.C w1 A n xs :=
 ⟨h.1, h.2.1, fun hn => by
  obtain ⟨ad, e, hc⟩ := h.2.2 hn
  refine ⟨ad, e, fun j p hj => ?_⟩
  obtain ⟨c, hs, hr, hcell⟩ := hc j p hj
  exact ⟨c, hs, hd.K hb hr, fun i u hu => cell_heap hb (hcell i u hu)⟩⟩
theorem heap_int (k : IntKind) : Heap (Kd.int k) := ⟨fun _ h => h⟩
end Kd
end Go.Proofs.YtbbpcbjgekencaaGreatDoorW.PrintWords
end
section
set_option linter.unusedVariables false
set_option linter.unusedSimpArgs false
namespace Go.Proofs.YtbbpcbjgekencaaGreatDoorW.PrintWords
open Go.RowKit
def Kept (w W : World) (S : Nat → Prop) : Prop := w.heap.size ≤ W.heap.size ∧ ∀ i, i < w.heap.size → ¬ S i → W.heap[i]? = w.heap[i]?
section
variable {w W W2 : World} {S S2 S' : Nat → Prop}
theorem Kept.refl (w : World) (S : Nat → Prop) : Kept w w S := ⟨Nat.le_refl _, fun _ _ _ => rfl⟩
end
end Go.Proofs.YtbbpcbjgekencaaGreatDoorW.PrintWords
end
section
set_option linter.unusedVariables false
set_option linter.unusedSimpArgs false
namespace Go.Proofs.YtbbpcbjgekencaaGreatDoorW.PrintWords
open Go.RowKit
def Foot (P : World → Prop) (W : World) (ok : Nat → Prop) : Prop := ∀ W' : World, (∀ k, ok k → k < W.heap.size → W'.heap[k]? = W.heap[k]?) → P W'
theorem heap_lt {W W1 : World} {k : Nat} (h : W1.heap[k]? = W.heap[k]?) (hlt : k < W.heap.size) : k < W1.heap.size := by
 rw [Array.getElem?_eq_getElem hlt] at h
 exact (Array.getElem?_eq_some_iff.1 h).1
namespace Foot
variable {P Q : World → Prop} {W W1 : World} {ok ok' : Nat → Prop}
theorem now (h : Foot P W ok) : P W := h W (fun _ _ _ => rfl)
theorem mono (h : Foot P W ok) (hok : ∀ k, ok k → ok' k) : Foot P W ok' := fun W' hW => h W' (fun k hk hlt => hW k (hok k hk) hlt)
theorem bound (h : Foot P W ok) : Foot P W (fun k => ok k ∧ k < W.heap.size) := fun W' hW => h W' (fun k hk hlt => hW k ⟨hk, hlt⟩ hlt)
theorem step (h : Foot P W ok) (hm : ∀ k, ok k → k < W.heap.size → W1.heap[k]? = W.heap[k]?) : Foot P W1 ok := fun W' hW => h W' (fun k hk hlt => (hW k hk (heap_lt (hm k hk hlt) hlt)).trans (hm k hk hlt))
theorem old (h : Foot P W ok) (hb : Below W.heap.size W W1) : Foot P W1 (fun k => ok k ∧ k < W.heap.size) := (h.bound).step (fun k _ hlt => hb.block k hlt)
end Foot
namespace Kd
def F {α : Type} (d : Kd α) (W : World) (ok : Nat → Prop) (A : Option Addr) (n : Nat) (xs : List α) : Prop := Foot (fun W => d.C W A n xs) W ok
def FK {α : Type} (d : Kd α) (W : World) (ok : Nat → Prop) (x : α) (c : List Value) : Prop := Foot (fun W => d.K W x c) W ok
section
variable {α β : Type} {d : Kd α} {e base n n' cc g N : Nat} {ok ok' okp S : Nat → Prop} {w w0 w1 W W1 : World} {A A' : Option Addr} {u v v1 : Value} {xs : List α} {xs' : List β} {d' : Kd β} {x : α} {c : List Value}
theorem F_now (h : F d W ok A n xs) : d.C W A n xs := Foot.now h
theorem F_mono (h : F d W ok A n xs) (hok : ∀ k, ok k → ok' k) : F d W ok' A n xs := Foot.mono h hok
theorem F_step (h : F d W ok A n xs) (hm : ∀ k, ok k → k < W.heap.size → W1.heap[k]? = W.heap[k]?) : F d W1 ok A n xs := Foot.step h hm
theorem F_below (h : F d W ok A n xs) (hb : Below W.heap.size W W1) : F d W1 ok A n xs := F_step h (fun k _ hlt => hb.block k hlt)
theorem F_alloc (h : F d W ok A n xs) (o : Obj) : F d (W.alloc o) ok A n xs := F_below h (below_alloc (Below.refl _ _) o)
theorem F_grown (h : F d W ok A n xs) {row : Option Nat} (hg : W.grownBy W1 row) (hok : ∀ k, ok k → some k ≠ row) : F d W1 ok A n xs := F_step h (fun k hk hlt => hg.block k hlt (hok k hk))
theorem F_nil (d : Kd α) (W : World) (ok : Nat → Prop) : F d W ok none ([] : List α).length [] := fun W' _ => C_nil d W'
theorem C_F (hd : Heap d) (h : d.C w A n xs) : F d w (fun k => k < w.heap.size) A n xs := fun _ hW => hd.C (fun k hlt => hW k hlt hlt) h
theorem R_F (h : d.R e W base ok (.slice A n cc) xs) : F d W ok A n xs := fun W' hW => by
 have h2 := R_reads' (R_step h hW)
 rw [h2.1]
 exact h2.2.2
end
end Kd
end Go.Proofs.YtbbpcbjgekencaaGreatDoorW.PrintWords
end
section
set_option linter.unusedVariables false
set_option linter.unusedSimpArgs false
namespace Go.Proofs.YtbbpcbjgekencaaGreatDoorW.PrintWords
open Go.RowKit
namespace Kd
section
variable {α : Type} {d : Kd α} {e base n cc g : Nat} {ok ok' okp S : Nat → Prop} {w w1 W W1 : World} {A : Option Addr} {u v v1 : Value} {xs : List α} {x : α} {c : List Value}
def N {α : Type} (d : Kd α) (e : Nat) (w : World) (base : Nat) (ok : Nat → Prop) (v : Value) (xs : List α) : Prop :=
 (∀ k, v.ownBlock = some k → ok k) ∧ ∃ rows : List (List Value), rows.length = xs.length ∧ (raw d.sz).R e w base (fun k => some k = v.ownBlock) v rows ∧ ∀ (j : Nat) (x : α) (c : List Value), xs[j]? = some x → rows[j]? = some c → FK d w (fun k => ok k ∧ some k ≠ v.ownBlock) x c
end
end Kd
end Go.Proofs.YtbbpcbjgekencaaGreatDoorW.PrintWords
end
section
set_option linter.unusedVariables false
set_option linter.unusedSimpArgs false
namespace Go.Proofs.YtbbpcbjgekencaaGreatDoorW.PrintWords
open Go.RowKit
section
variable {w w' u : World} {m B g : Nat} {o : Obj} {row : Option Nat} {S : Nat → Prop} {a : Addr} {v : Value}
theorem cell_at (hq : w.drewN m = w') (h : w.cell? a = some v) : w'.cell? a = some v := by subst hq; exact h
end
end Go.Proofs.YtbbpcbjgekencaaGreatDoorW.PrintWords
end
section
set_option linter.unusedVariables false
set_option linter.unusedSimpArgs false
namespace Go.Proofs.YtbbpcbjgekencaaGreatDoorW.PrintMore
open Go.RowKit Go.Proofs.YtbbpcbjgekencaaGreatDoorW.PrintWords
theorem max2_int (k k' : IntKind) (x y : Int) : Builtin.max2 (.int k x) (.int k' y) = pure (.int k (if x < y then y else x)) := by simp only [Builtin.max2, gt_iff_lt]
theorem min2_int (k k' : IntKind) (x y : Int) : Builtin.min2 (.int k x) (.int k' y) = pure (.int k (if y < x then y else x)) := by simp only [Builtin.min2]
theorem max_two (ats : Array TypeId) (ty : TypeId) (a b : Value) : Builtin.max_ ats ty #[a, b] = (Builtin.max2 a b >>= fun s => pure s) := by simp only [Builtin.max_, List.foldlM_cons, List.foldlM_nil]
theorem min_two (ats : Array TypeId) (ty : TypeId) (a b : Value) : Builtin.min_ ats ty #[a, b] = (Builtin.min2 a b >>= fun s => pure s) := by simp only [Builtin.min_, List.foldlM_cons, List.foldlM_nil]
theorem max_three (ats : Array TypeId) (ty : TypeId) (a b c : Value) : Builtin.max_ ats ty #[a, b, c] = (Builtin.max2 a b >>= fun s => Builtin.max2 s c >>= fun s => pure s) := by simp only [Builtin.max_, List.foldlM_cons, List.foldlM_nil]
theorem min_three (ats : Array TypeId) (ty : TypeId) (a b c : Value) : Builtin.min_ ats ty #[a, b, c] = (Builtin.min2 a b >>= fun s => Builtin.min2 s c >>= fun s => pure s) := by simp only [Builtin.min_, List.foldlM_cons, List.foldlM_nil]
theorem max_four (ats : Array TypeId) (ty : TypeId) (a b c d : Value) : Builtin.max_ ats ty #[a, b, c, d] = (Builtin.max2 a b >>= fun s => Builtin.max2 s c >>= fun s => Builtin.max2 s d >>= fun s => pure s) := by simp only [Builtin.max_, List.foldlM_cons, List.foldlM_nil]
theorem min_four (ats : Array TypeId) (ty : TypeId) (a b c d : Value) : Builtin.min_ ats ty #[a, b, c, d] = (Builtin.min2 a b >>= fun s => Builtin.min2 s c >>= fun s => Builtin.min2 s d >>= fun s => pure s) := by simp only [Builtin.min_, List.foldlM_cons, List.foldlM_nil]
end Go.Proofs.YtbbpcbjgekencaaGreatDoorW.PrintMore
namespace Go.Proofs.YtbbpcbjgekencaaGreatDoorW.PrintWords
open Go.RowKit
def mx (a b : Int) : Int := if a < b then b else a
def mn (a b : Int) : Int := if b < a then b else a
def shl (k : IntKind) (x y : Int) : Int := k.wrap (x * 2 ^ min y.toNat k.bits)
def shr (k : IntKind) (x y : Int) : Int := x / 2 ^ min y.toNat k.bits
end Go.Proofs.YtbbpcbjgekencaaGreatDoorW.PrintWords
namespace Go.Proofs.YtbbpcbjgekencaaGreatDoorW.PrintWords
open Go.RowKit
namespace Kd
def V {α : Type} (d : Kd α) (_e : Nat) (W : World) (_base : Nat) (ok : Nat → Prop) (v : Value) (xs : List α) : Prop := ∃ A c, v = .slice A xs.length c ∧ xs.length ≤ c ∧ F d W ok A xs.length xs
section
variable {α β : Type} {d : Kd α} {e base base' n m c g N' lo hi : Nat} {ok ok' S : Nat → Prop} {w W w1 : World} {A : Option Addr} {ad : Addr} {u v v1 : Value} {xs : List α}
theorem V_map (h : V d e W base ok v xs) (hF : ∀ A, F d W ok A xs.length xs → F d w1 ok' A xs.length xs) : V d e w1 base' ok' v xs := by
 obtain ⟨A, c, hv, hl, hf⟩ := h
 exact ⟨A, c, hv, hl, hF A hf⟩
theorem V_mk (hl : xs.length ≤ c) (hf : F d W ok A xs.length xs) : V d e W base ok (.slice A xs.length c) xs := ⟨A, c, rfl, hl, hf⟩
theorem V_slice (h : V d e W base ok v xs) : ∃ A c, v = .slice A xs.length c := by
 obtain ⟨A, c, hv, _⟩ := h
 exact ⟨A, c, hv⟩
theorem V_at (h : V d e W base ok (.slice A n c) xs) : n = xs.length ∧ n ≤ c ∧ F d W ok A xs.length xs := by
 obtain ⟨A', c', hv, hl, hf⟩ := h
 injection hv with ha hn hc
 subst ha; subst hc
 exact ⟨hn, by rw [hn]; exact hl, hf⟩
theorem V_reads' (h : V d e W base ok (.slice A n c) xs) : n = xs.length ∧ n ≤ c ∧ d.C W A xs.length xs := ⟨(V_at h).1, (V_at h).2.1, F_now (V_at h).2.2⟩
theorem V_nil (d : Kd α) (e : Nat) (W : World) (base : Nat) (ok : Nat → Prop) : V d e W base ok (.slice none 0 0) [] := ⟨none, 0, rfl, Nat.le_refl _, F_nil d W ok⟩
theorem V_mono (h : V d e W base ok v xs) (hok : ∀ k, ok k → ok' k) : V d e W base ok' v xs := V_map h (fun _ hf => F_mono hf hok)
theorem V_below (h : V d e W base ok v xs) (hb : Below W.heap.size W w1) : V d e w1 base ok v xs := V_map h (fun _ hf => F_below hf hb)
end
end Kd
end Go.Proofs.YtbbpcbjgekencaaGreatDoorW.PrintWords
end
section
set_option linter.unusedVariables false
set_option linter.unusedSimpArgs false
namespace Go.Proofs.YtbbpcbjgekencaaGreatDoor.Q
open Go.RowKit Go.Proofs.YtbbpcbjgekencaaGreatDoorW.PrintWords Go.Proofs.YtbbpcbjgekencaaGreatDoorW.PrintLast Go.Proofs.YtbbpcbjgekencaaGreatDoorW.PrintMore
attribute [local go_sem] max2_int min2_int max_two min_two max_three min_three max_four min_four   -- for this text's walks alone
set_option linter.unusedVariables false
set_option linter.unusedSimpArgs false
structure S96 where
 f0 : Int
 f1 : (List Int)
def z96 : S96 := ⟨(0 : Int), ([] : List Int)⟩
def k96 : Kd S96 := Kd.iso (Kd.pair (Kd.int .i64) (Kd.slice 33 (Kd.int .u64))) (fun x : S96 => (x.f0, x.f1))
theorem k96_open {w : World} {x : S96} {cs : List Value} (h : k96.K w x cs) : ∃ A1 c1, cs = [.int .i64 x.f0, .slice A1 x.f1.length c1] ∧ x.f1.length ≤ c1 ∧ (Kd.int .u64).C w A1 x.f1.length x.f1 := by
 obtain ⟨_, _, rfl, rfl, ⟨A1, c1, rfl, l1, g1⟩⟩ := h
 exact ⟨A1, c1, rfl, l1, g1⟩
structure S135 where
 f0 : Int
 f1 : Int
 f2 : Int
def z135 : S135 := ⟨(0 : Int), (0 : Int), (0 : Int)⟩
def k135 : Kd S135 := Kd.iso (Kd.pair (Kd.int .i64) (Kd.pair (Kd.int .i64) (Kd.int .u64))) (fun x : S135 => (x.f0, x.f1, x.f2))
theorem k135_open {w : World} {x : S135} {cs : List Value} (h : k135.K w x cs) : cs = [.int .i64 x.f0, .int .i64 x.f1, .int .u64 x.f2] := by
 obtain ⟨_, _, rfl, rfl, ⟨_, _, rfl, rfl, rfl⟩⟩ := h
 exact rfl
theorem k135_openM {w : World} {base : Nat} {ok : Nat → Prop} {x : S135} {cs : List Value} (h : k135.M w base ok x cs) : cs = [.int .i64 x.f0, .int .i64 x.f1, .int .u64 x.f2] := by
 obtain ⟨_, _, rfl, rfl, ⟨_, _, rfl, rfl, rfl⟩⟩ := h
 exact rfl
theorem k135_mk (w : World) (x : S135)  : k135.K w x [.int .i64 x.f0, .int .i64 x.f1, .int .u64 x.f2] := ⟨[.int .i64 x.f0], [.int .i64 x.f1, .int .u64 x.f2], rfl, rfl, ⟨[.int .i64 x.f1], [.int .u64 x.f2], rfl, rfl, rfl⟩⟩
theorem k135_mkM (w : World) (base : Nat) (ok : Nat → Prop) (x : S135)  : k135.M w base ok x [.int .i64 x.f0, .int .i64 x.f1, .int .u64 x.f2] := ⟨[.int .i64 x.f0], [.int .i64 x.f1, .int .u64 x.f2], rfl, rfl, ⟨[.int .i64 x.f1], [.int .u64 x.f2], rfl, rfl, rfl⟩⟩
structure S94 where
 f0 : Int
 f1 : Int
 f2 : Int
 f3 : (List S96)
 f4 : (List S135)
def z94 : S94 := ⟨(0 : Int), (0 : Int), (0 : Int), ([] : List S96), ([] : List S135)⟩
def k94 : Kd S94 := Kd.iso (Kd.pair (Kd.int .u8) (Kd.pair (Kd.int .u8) (Kd.pair (Kd.int .u64) (Kd.pair (Kd.slice 96 k96) (Kd.slice 135 k135))))) (fun x : S94 => (x.f0, x.f1, x.f2, x.f3, x.f4))
theorem k94_open {w : World} {x : S94} {cs : List Value} (h : k94.K w x cs) : ∃ A3 c3 A4 c4, cs = [.int .u8 x.f0, .int .u8 x.f1, .int .u64 x.f2, .slice A3 x.f3.length c3, .slice A4 x.f4.length c4] ∧ x.f3.length ≤ c3 ∧ k96.C w A3 x.f3.length x.f3 ∧ x.f4.length ≤ c4 ∧ k135.C w A4 x.f4.length x.f4 := by
 obtain ⟨_, _, rfl, rfl, ⟨_, _, rfl, rfl, ⟨_, _, rfl, rfl, ⟨_, _, rfl, ⟨A3, c3, rfl, l3, g3⟩, ⟨A4, c4, rfl, l4, g4⟩⟩⟩⟩⟩ := h
 exact ⟨A3, c3, A4, c4, rfl, l3, g3, l4, g4⟩
structure S35 where
 f0 : Int
 f1 : Int
def z35 : S35 := ⟨(0 : Int), (0 : Int)⟩
def k35 : Kd S35 := Kd.iso (Kd.pair (Kd.int .u16) (Kd.int .u64)) (fun x : S35 => (x.f0, x.f1))
theorem k35_open {w : World} {x : S35} {cs : List Value} (h : k35.K w x cs) : cs = [.int .u16 x.f0, .int .u64 x.f1] := by
 obtain ⟨_, _, rfl, rfl, rfl⟩ := h
 exact rfl
theorem k35_openM {w : World} {base : Nat} {ok : Nat → Prop} {x : S35} {cs : List Value} (h : k35.M w base ok x cs) : cs = [.int .u16 x.f0, .int .u64 x.f1] := by
 obtain ⟨_, _, rfl, rfl, rfl⟩ := h
 exact rfl
theorem k35_mk (w : World) (x : S35)  : k35.K w x [.int .u16 x.f0, .int .u64 x.f1] := ⟨[.int .u16 x.f0], [.int .u64 x.f1], rfl, rfl, rfl⟩
theorem k35_mkM (w : World) (base : Nat) (ok : Nat → Prop) (x : S35)  : k35.M w base ok x [.int .u16 x.f0, .int .u64 x.f1] := ⟨[.int .u16 x.f0], [.int .u64 x.f1], rfl, rfl, rfl⟩
structure S114 where
 f0 : Int
 f1 : Int
 f2 : Int
 f3 : Int
 f4 : Int
def z114 : S114 := ⟨(0 : Int), (0 : Int), (0 : Int), (0 : Int), (0 : Int)⟩
def k114 : Kd S114 := Kd.iso (Kd.pair (Kd.int .i64) (Kd.pair (Kd.int .i64) (Kd.pair (Kd.int .i64) (Kd.pair (Kd.int .i64) (Kd.int .u64))))) (fun x : S114 => (x.f0, x.f1, x.f2, x.f3, x.f4))
theorem k114_open {w : World} {x : S114} {cs : List Value} (h : k114.K w x cs) : cs = [.int .i64 x.f0, .int .i64 x.f1, .int .i64 x.f2, .int .i64 x.f3, .int .u64 x.f4] := by
 obtain ⟨_, _, rfl, rfl, ⟨_, _, rfl, rfl, ⟨_, _, rfl, rfl, ⟨_, _, rfl, rfl, rfl⟩⟩⟩⟩ := h
 exact rfl
theorem k114_openM {w : World} {base : Nat} {ok : Nat → Prop} {x : S114} {cs : List Value} (h : k114.M w base ok x cs) : cs = [.int .i64 x.f0, .int .i64 x.f1, .int .i64 x.f2, .int .i64 x.f3, .int .u64 x.f4] := by
 obtain ⟨_, _, rfl, rfl, ⟨_, _, rfl, rfl, ⟨_, _, rfl, rfl, ⟨_, _, rfl, rfl, rfl⟩⟩⟩⟩ := h
 exact rfl
theorem k114_mk (w : World) (x : S114)  : k114.K w x [.int .i64 x.f0, .int .i64 x.f1, .int .i64 x.f2, .int .i64 x.f3, .int .u64 x.f4] := ⟨[.int .i64 x.f0], [.int .i64 x.f1, .int .i64 x.f2, .int .i64 x.f3, .int .u64 x.f4], rfl, rfl, ⟨[.int .i64 x.f1], [.int .i64 x.f2, .int .i64 x.f3, .int .u64 x.f4], rfl, rfl, ⟨[.int .i64 x.f2], [.int .i64 x.f3, .int .u64 x.f4], rfl, rfl, ⟨[.int .i64 x.f3], [.int .u64 x.f4], rfl, rfl, rfl⟩⟩⟩⟩
theorem k114_mkM (w : World) (base : Nat) (ok : Nat → Prop) (x : S114)  : k114.M w base ok x [.int .i64 x.f0, .int .i64 x.f1, .int .i64 x.f2, .int .i64 x.f3, .int .u64 x.f4] := ⟨[.int .i64 x.f0], [.int .i64 x.f1, .int .i64 x.f2, .int .i64 x.f3, .int .u64 x.f4], rfl, rfl, ⟨[.int .i64 x.f1], [.int .i64 x.f2, .int .i64 x.f3, .int .u64 x.f4], rfl, rfl, ⟨[.int .i64 x.f2], [.int .i64 x.f3, .int .u64 x.f4], rfl, rfl, ⟨[.int .i64 x.f3], [.int .u64 x.f4], rfl, rfl, rfl⟩⟩⟩⟩
structure S57 where
 f0 : Int
 f1 : Int
def z57 : S57 := ⟨(0 : Int), (0 : Int)⟩
structure S61 where
 f0 : Int
 f1 : Int
 f2 : Int
def z61 : S61 := ⟨(0 : Int), (0 : Int), (0 : Int)⟩
def k61 : Kd S61 := Kd.iso (Kd.pair (Kd.int .i64) (Kd.pair (Kd.int .i64) (Kd.int .i64))) (fun x : S61 => (x.f0, x.f1, x.f2))
theorem k61_open {w : World} {x : S61} {cs : List Value} (h : k61.K w x cs) : cs = [.int .i64 x.f0, .int .i64 x.f1, .int .i64 x.f2] := by
 obtain ⟨_, _, rfl, rfl, ⟨_, _, rfl, rfl, rfl⟩⟩ := h
 exact rfl
theorem k61_openM {w : World} {base : Nat} {ok : Nat → Prop} {x : S61} {cs : List Value} (h : k61.M w base ok x cs) : cs = [.int .i64 x.f0, .int .i64 x.f1, .int .i64 x.f2] := by
 obtain ⟨_, _, rfl, rfl, ⟨_, _, rfl, rfl, rfl⟩⟩ := h
 exact rfl
theorem k61_mk (w : World) (x : S61)  : k61.K w x [.int .i64 x.f0, .int .i64 x.f1, .int .i64 x.f2] := ⟨[.int .i64 x.f0], [.int .i64 x.f1, .int .i64 x.f2], rfl, rfl, ⟨[.int .i64 x.f1], [.int .i64 x.f2], rfl, rfl, rfl⟩⟩
theorem k61_mkM (w : World) (base : Nat) (ok : Nat → Prop) (x : S61)  : k61.M w base ok x [.int .i64 x.f0, .int .i64 x.f1, .int .i64 x.f2] := ⟨[.int .i64 x.f0], [.int .i64 x.f1, .int .i64 x.f2], rfl, rfl, ⟨[.int .i64 x.f1], [.int .i64 x.f2], rfl, rfl, rfl⟩⟩
def rd_T61 (xs : List S61) (i : Int) : S61 := xs.getD i.toNat z61
theorem at_T61 {w : World} {A : Option Addr} {n : Nat} {xs : List S61} (h : Kd.C k61 w A n xs) (i : Int) (h0 : 0 ≤ i) (h1 : i < n) : ∃ ad , A = some ad ∧ w.cell? (ad.add (i.toNat * 3)) = some (.int .i64 (rd_T61 xs i).f0) ∧ w.cell? ⟨(ad.add (i.toNat * 3)).block, (ad.add (i.toNat * 3)).off + 1, none⟩ = some (.int .i64 (rd_T61 xs i).f1) ∧ w.cell? ⟨(ad.add (i.toNat * 3)).block, (ad.add (i.toNat * 3)).off + 2, none⟩ = some (.int .i64 (rd_T61 xs i).f2) := by
 obtain ⟨ad, c, e, _, hK, hc0⟩ := Kd.C_get h z61 i h0 h1
 have hc : ∀ j u, c[j]? = some u → w.cell? (ad.add (i.toNat * 3 + j)) = some u := hc0
 obtain rfl := k61_open hK
 exact ⟨ad, e, hc 0 _ rfl, by rw [← add_field _ _ 1 (by omega)]; exact hc 1 _ rfl, by rw [← add_field _ _ 2 (by omega)]; exact hc 2 _ rfl⟩
structure S42 where
 f0 : Int
 f1 : Int
 f2 : Int
def z42 : S42 := ⟨(0 : Int), (0 : Int), (0 : Int)⟩
structure S64 where
 f0 : S42
 f1 : (List Int)
def z64 : S64 := ⟨z42, ([] : List Int)⟩
end Go.Proofs.YtbbpcbjgekencaaGreatDoor.Q
end
section
set_option linter.unusedVariables false
set_option linter.unusedSimpArgs false
set_option linter.unusedVariables false
namespace Go.Proofs.YtbbpcbjgekencaaGreatDoor.Ev
open Go Go.Proofs.YtbbpcbjgekencaaGreatDoor.Q
inductive ElT
 | no
 | t3
 | t5
 | t32
 | t33
 | t35
 | t57
 | t61
 | t64
 | t94
 | t96
 | t114
 | t135
def elT : TypeId → ElT := fun e => match e with
 | 3 => .t3
 | 5 => .t5
 | 32 => .t32
 | 33 => .t33
 | 35 => .t35
 | 57 => .t57
 | 61 => .t61
 | 64 => .t64
 | 94 => .t94
 | 96 => .t96
 | 114 => .t114
 | 135 => .t135
 | _ => .no
noncomputable def elOf : ElT → El
 | .t3 => ⟨Int, 0, 1⟩
 | .t5 => ⟨Int, 0, 1⟩
 | .t32 => ⟨Int, 0, 1⟩
 | .t33 => ⟨Int, 0, 1⟩
 | .t35 => ⟨S35, z35, 2⟩
 | .t57 => ⟨S57, z57, 2⟩
 | .t61 => ⟨S61, z61, 3⟩
 | .t64 => ⟨S64, z64, 4⟩
 | .t94 => ⟨S94, z94, 5⟩
 | .t96 => ⟨S96, z96, 2⟩
 | .t114 => ⟨S114, z114, 5⟩
 | .t135 => ⟨S135, z135, 3⟩
 | .no => ⟨Unit, (), 0⟩
noncomputable abbrev Γ : Sig := ⟨fun e => elOf (elT e), fun _ => Unit⟩
noncomputable def cellsT : (t : ElT) → (elOf t).ty → List (CV Γ)
 | .t3 => fun (x : Int) => [.c (.int .i64 x)]
 | .t5 => fun (x : Int) => [.c (.int .u8 x)]
 | .t32 => fun (x : Int) => [.c (.int .u16 x)]
 | .t33 => fun (x : Int) => [.c (.int .u64 x)]
 | .t35 => fun (x : S35) => [.c (.int .u16 x.f0), .c (.int .u64 x.f1)]
 | .t57 => fun (x : S57) => [.c (.int .i64 x.f0), .c (.int .i64 x.f1)]
 | .t61 => fun (x : S61) => [.c (.int .i64 x.f0), .c (.int .i64 x.f1), .c (.int .i64 x.f2)]
 | .t64 => fun (x : S64) => [.c (.int .i64 x.f0.f0), .c (.int .i64 x.f0.f1), .c (.int .u64 x.f0.f2), .sl .near 33 x.f1]
 | .t94 => fun (x : S94) => [.c (.int .u8 x.f0), .c (.int .u8 x.f1), .c (.int .u64 x.f2), .sl .near 96 x.f3, .sl .near 135 x.f4]
 | .t96 => fun (x : S96) => [.c (.int .i64 x.f0), .sl .near 33 x.f1]
 | .t114 => fun (x : S114) => [.c (.int .i64 x.f0), .c (.int .i64 x.f1), .c (.int .i64 x.f2), .c (.int .i64 x.f3), .c (.int .u64 x.f4)]
 | .t135 => fun (x : S135) => [.c (.int .i64 x.f0), .c (.int .i64 x.f1), .c (.int .u64 x.f2)]
 | .no => fun _ => []
noncomputable def slD {ω : Type} (e : TypeId) (x : CV Γ) (K : List (Γ.el e).ty → Option ω) : Option ω := match x with
 | .sl _ e' l => if h : e' = e then K (h ▸ l) else none
 | .c (.slice none 0 0) => K []
 | _ => none
noncomputable def encT : (t : ElT) → List (CV Γ) → Option (elOf t).ty
 | .t3 => fun l => (match l with
  | [.c (.int .i64 x0)] => some (x0 : Int)
  | _ => none)
 | .t5 => fun l => (match l with
  | [.c (.int .u8 x0)] => some (x0 : Int)
  | _ => none)
 | .t32 => fun l => (match l with
  | [.c (.int .u16 x0)] => some (x0 : Int)
  | _ => none)
 | .t33 => fun l => (match l with
  | [.c (.int .u64 x0)] => some (x0 : Int)
  | _ => none)
 | .t35 => fun l => (match l with
  | [.c (.int .u16 x0), .c (.int .u64 x1)] => some (⟨x0, x1⟩ : S35)
  | _ => none)
 | .t57 => fun l => (match l with
  | [.c (.int .i64 x0), .c (.int .i64 x1)] => some (⟨x0, x1⟩ : S57)
  | _ => none)
 | .t61 => fun l => (match l with
  | [.c (.int .i64 x0), .c (.int .i64 x1), .c (.int .i64 x2)] => some (⟨x0, x1, x2⟩ : S61)
  | _ => none)
 | .t64 => fun l => (match l with
  | [.c (.int .i64 x0), .c (.int .i64 x1), .c (.int .u64 x2), x3] => slD 33 x3 fun x3 => some (⟨⟨x0, x1, x2⟩, x3⟩ : S64)
  | _ => none)
 | .t94 => fun l => (match l with
  | [.c (.int .u8 x0), .c (.int .u8 x1), .c (.int .u64 x2), x3, x4] => slD 96 x3 fun x3 => slD 135 x4 fun x4 => some (⟨x0, x1, x2, x3, x4⟩ : S94)
  | _ => none)
 | .t96 => fun l => (match l with
  | [.c (.int .i64 x0), x1] => slD 33 x1 fun x1 => some (⟨x0, x1⟩ : S96)
  | _ => none)
 | .t114 => fun l => (match l with
  | [.c (.int .i64 x0), .c (.int .i64 x1), .c (.int .i64 x2), .c (.int .i64 x3), .c (.int .u64 x4)] => some (⟨x0, x1, x2, x3, x4⟩ : S114)
  | _ => none)
 | .t135 => fun l => (match l with
  | [.c (.int .i64 x0), .c (.int .i64 x1), .c (.int .u64 x2)] => some (⟨x0, x1, x2⟩ : S135)
  | _ => none)
 | .no => fun _ => none
def stdOf : ElT → Bool
 | .no => false
 | _ => true
def flatOf : ElT → Bool
 | .t3 | .t5 | .t32 | .t33 | .t35 | .t57 | .t61 | .t114 | .t135 => true
 | _ => false
def undT : TT TypeDesc := (.node (.node (.node (.node (.node (.node (.node .leaf 2 (.int .i64) .leaf) 3 (.int .i64) .leaf) 4 (.bool) (.node .leaf 5 (.int .u8) .leaf)) 7 (.struct #[⟨"x", 2, 0, false, "", "runtime", 0⟩, ⟨"y", 3, 1, false, "", "runtime", 8⟩, ⟨"signed", 4, 2, false, "", "runtime", 16⟩, ⟨"code", 6, 3, false, "", "runtime", 17⟩]) (.node (.node (.node .leaf 9 (.string) .leaf) 12 (.int .u64) .leaf) 13 (.struct #[⟨"msg", 9, 0, false, "", "runtime", 0⟩, ⟨"addr", 12, 1, false, "", "runtime", 16⟩]) (.node .leaf 15 (.pointer 183) .leaf))) 16 (.pointer 186) (.node (.node (.node (.node .leaf 17 (.pointer 195) .leaf) 18 (.struct #[⟨"typ", 17, 0, false, "", "internal/runtime/maps", 0⟩]) .leaf) 21 (.int .i32) (.node .leaf 22 (.slice 32) .leaf)) 23 (.slice 5) (.node (.node (.node .leaf 24 (.int .u32) .leaf) 25 (.slice 33) .leaf) 26 (.struct #[⟨"Lanes", 5, 0, false, "", "", 0⟩, ⟨"Chunks", 5, 1, false, "", "", 1⟩, ⟨"Tiles", 22, 2, false, "", "", 8⟩, ⟨"Types", 23, 3, false, "", "", 32⟩, ⟨"Less", 23, 4, false, "", "", 56⟩, ⟨"Epoch", 24, 5, false, "", "", 80⟩, ⟨"Root", 5, 6, false, "", "", 84⟩, ⟨"Fill", 25, 7, false, "", "", 88⟩]) (.node .leaf 27 (.struct #[⟨"Lanes", 5, 0, false, "", "", 0⟩, ⟨"Chunks", 5, 1, false, "", "", 1⟩, ⟨"Tiles", 22, 2, false, "", "", 8⟩, ⟨"Types", 23, 3, false, "", "", 32⟩, ⟨"Less", 23, 4, false, "", "", 56⟩, ⟨"Epoch", 24, 5, false, "", "", 80⟩, ⟨"Root", 5, 6, false, "", "", 84⟩, ⟨"Fill", 25, 7, false, "", "", 88⟩]) .leaf)))) 28 (.slice 35) (.node (.node (.node (.node (.node .leaf 32 (.int .u16) .leaf) 33 (.int .u64) .leaf) 34 (.struct #[⟨"At", 32, 0, false, "", "", 0⟩, ⟨"V", 33, 1, false, "", "", 8⟩]) (.node .leaf 35 (.struct #[⟨"At", 32, 0, false, "", "", 0⟩, ⟨"V", 33, 1, false, "", "", 8⟩]) .leaf)) 36 (.int .i64) (.node (.node (.node .leaf 39 (.slice 64) .leaf) 41 (.struct #[⟨"At", 3, 0, false, "", "", 0⟩, ⟨"Type", 3, 1, false, "", "", 8⟩, ⟨"Serial", 33, 2, false, "", "", 16⟩]) .leaf) 42 (.struct #[⟨"At", 3, 0, false, "", "", 0⟩, ⟨"Type", 3, 1, false, "", "", 8⟩, ⟨"Serial", 33, 2, false, "", "", 16⟩]) (.node .leaf 45 (.slice 94) .leaf))) 46 (.struct #[⟨"Lanes", 5, 0, false, "", "", 0⟩, ⟨"Chunks", 5, 1, false, "", "", 1⟩, ⟨"Tiles", 22, 2, false, "", "", 8⟩, ⟨"Fill", 25, 3, false, "", "", 32⟩, ⟨"Items", 45, 4, false, "", "", 56⟩, ⟨"Root", 33, 5, false, "", "", 80⟩, ⟨"Epoch", 33, 6, false, "", "", 88⟩, ⟨"Spoil", 28, 7, false, "", "", 96⟩]) (.node (.node (.node (.node .leaf 47 (.struct #[⟨"Lanes", 5, 0, false, "", "", 0⟩, ⟨"Chunks", 5, 1, false, "", "", 1⟩, ⟨"Tiles", 22, 2, false, "", "", 8⟩, ⟨"Fill", 25, 3, false, "", "", 32⟩, ⟨"Items", 45, 4, false, "", "", 56⟩, ⟨"Root", 33, 5, false, "", "", 80⟩, ⟨"Epoch", 33, 6, false, "", "", 88⟩, ⟨"Spoil", 28, 7, false, "", "", 96⟩]) .leaf) 50 (.struct #[⟨"Words", 3, 0, false, "", "", 0⟩, ⟨"Lanes", 3, 1, false, "", "", 8⟩]) .leaf) 51 (.struct #[⟨"Words", 3, 0, false, "", "", 0⟩, ⟨"Lanes", 3, 1, false, "", "", 8⟩]) (.node .leaf 53 (.slice 61) .leaf)) 56 (.struct #[⟨"From", 3, 0, false, "", "", 0⟩, ⟨"Many", 3, 1, false, "", "", 8⟩]) (.node (.node (.node .leaf 57 (.struct #[⟨"From", 3, 0, false, "", "", 0⟩, ⟨"Many", 3, 1, false, "", "", 8⟩]) .leaf) 60 (.struct #[⟨"Chunk", 3, 0, false, "", "", 0⟩, ⟨"Index", 3, 1, false, "", "", 8⟩, ⟨"Words", 3, 2, false, "", "", 16⟩]) .leaf) 61 (.struct #[⟨"Chunk", 3, 0, false, "", "", 0⟩, ⟨"Index", 3, 1, false, "", "", 8⟩, ⟨"Words", 3, 2, false, "", "", 16⟩]) (.node .leaf 63 (.struct #[⟨"Oid", 42, 0, false, "", "", 0⟩, ⟨"Data", 25, 3, false, "", "", 24⟩]) .leaf))))) 64 (.struct #[⟨"Oid", 42, 0, false, "", "", 0⟩, ⟨"Data", 25, 3, false, "", "", 24⟩]) (.node (.node (.node (.node (.node (.node .leaf 70 (.struct #[⟨"Type", 3, 0, false, "", "", 0⟩, ⟨"Size", 3, 1, false, "", "", 8⟩, ⟨"Serial", 33, 2, false, "", "", 16⟩]) .leaf) 71 (.struct #[⟨"Type", 3, 0, false, "", "", 0⟩, ⟨"Size", 3, 1, false, "", "", 8⟩, ⟨"Serial", 33, 2, false, "", "", 16⟩]) .leaf) 72 (.struct #[⟨"words", 25, 0, false, "", "lockfast/sound", 0⟩, ⟨"g", 51, 1, false, "", "lockfast/sound", 24⟩]) (.node .leaf 73 (.struct #[⟨"words", 25, 0, false, "", "lockfast/sound", 0⟩, ⟨"g", 51, 1, false, "", "lockfast/sound", 24⟩]) .leaf)) 78 (.struct #[⟨"Stage", 3, 0, false, "", "", 0⟩, ⟨"Count", 3, 1, false, "", "", 8⟩, ⟨"Gen", 33, 2, false, "", "", 16⟩]) (.node (.node (.node .leaf 79 (.struct #[⟨"Stage", 3, 0, false, "", "", 0⟩, ⟨"Count", 3, 1, false, "", "", 8⟩, ⟨"Gen", 33, 2, false, "", "", 16⟩]) .leaf) 83 (.slice 3) .leaf) 91 (.slice 96) (.node .leaf 92 (.slice 135) .leaf))) 93 (.struct #[⟨"Lane", 5, 0, false, "", "", 0⟩, ⟨"Stage", 5, 1, false, "", "", 1⟩, ⟨"Gen", 33, 2, false, "", "", 8⟩, ⟨"Entries", 91, 3, false, "", "", 16⟩, ⟨"Ops", 92, 4, false, "", "", 40⟩]) (.node (.node (.node (.node .leaf 94 (.struct #[⟨"Lane", 5, 0, false, "", "", 0⟩, ⟨"Stage", 5, 1, false, "", "", 1⟩, ⟨"Gen", 33, 2, false, "", "", 8⟩, ⟨"Entries", 91, 3, false, "", "", 16⟩, ⟨"Ops", 92, 4, false, "", "", 40⟩]) .leaf) 95 (.struct #[⟨"At", 3, 0, false, "", "", 0⟩, ⟨"Old", 25, 1, false, "", "", 8⟩]) .leaf) 96 (.struct #[⟨"At", 3, 0, false, "", "", 0⟩, ⟨"Old", 25, 1, false, "", "", 8⟩]) (.node .leaf 102 (.slice 57) .leaf)) 110 (.slice 114) (.node (.node (.node .leaf 113 (.struct #[⟨"Kind", 3, 0, false, "", "", 0⟩, ⟨"Class", 3, 1, false, "", "", 8⟩, ⟨"Lane", 3, 2, false, "", "", 16⟩, ⟨"Many", 3, 3, false, "", "", 24⟩, ⟨"Bits", 33, 4, false, "", "", 32⟩]) .leaf) 114 (.struct #[⟨"Kind", 3, 0, false, "", "", 0⟩, ⟨"Class", 3, 1, false, "", "", 8⟩, ⟨"Lane", 3, 2, false, "", "", 16⟩, ⟨"Many", 3, 3, false, "", "", 24⟩, ⟨"Bits", 33, 4, false, "", "", 32⟩]) .leaf) 120 (.struct #[⟨"holds", 29, 0, false, "", "lockfast/sound", 0⟩]) (.node .leaf 121 (.struct #[⟨"holds", 29, 0, false, "", "lockfast/sound", 0⟩]) .leaf)))) 122 (.slice 121) (.node (.node (.node (.node (.node .leaf 134 (.struct #[⟨"Kind", 3, 0, false, "", "", 0⟩, ⟨"At", 3, 1, false, "", "", 8⟩, ⟨"Value", 33, 2, false, "", "", 16⟩]) .leaf) 135 (.struct #[⟨"Kind", 3, 0, false, "", "", 0⟩, ⟨"At", 3, 1, false, "", "", 8⟩, ⟨"Value", 33, 2, false, "", "", 16⟩]) .leaf) 140 (.array 8 33) (.node .leaf 141 (.array 8 33) .leaf)) 143 (.map 33 4) (.node (.node (.node .leaf 144 (.int .u64) .leaf) 159 (.array 3 3) .leaf) 166 (.struct #[⟨"at", 3, 0, false, "", "lockfast/chunk", 0⟩, ⟨"many", 3, 1, false, "", "lockfast/chunk", 8⟩]) (.node .leaf 167 (.struct #[⟨"at", 3, 0, false, "", "lockfast/chunk", 0⟩, ⟨"many", 3, 1, false, "", "lockfast/chunk", 8⟩]) .leaf))) 172 (.array 2 3) (.node (.node (.node (.node .leaf 173 (.array 3 172) .leaf) 176 (.struct #[⟨"put", 175, 0, false, "", "lockfast/chunk", 0⟩, ⟨"v", 33, 1, false, "", "lockfast/chunk", 8⟩]) .leaf) 177 (.slice 176) (.node .leaf 180 (.array 256 24) .leaf)) 182 (.struct #[⟨"_interface", 17, 0, false, "", "runtime", 0⟩, ⟨"concrete", 17, 1, false, "", "runtime", 8⟩, ⟨"asserted", 17, 2, false, "", "runtime", 16⟩, ⟨"missingMethod", 9, 3, false, "", "runtime", 24⟩]) (.node (.node (.node .leaf 184 (.array 0 16) .leaf) 185 (.struct #[⟨"_", 184, 0, false, "", "runtime", 0⟩]) .leaf) 191 (.pointer 5) (.node .leaf 194 (.struct #[⟨"Size_", 12, 0, false, "", "", 0⟩, ⟨"PtrBytes", 12, 1, false, "", "", 8⟩, ⟨"Hash", 24, 2, false, "", "", 16⟩, ⟨"TFlag", 188, 3, false, "", "", 20⟩, ⟨"Align_", 5, 4, false, "", "", 21⟩, ⟨"FieldAlign_", 5, 5, false, "", "", 22⟩, ⟨"Kind_", 189, 6, false, "", "", 23⟩, ⟨"Equal", 190, 7, false, "", "", 24⟩, ⟨"GCData", 191, 8, false, "", "", 32⟩, ⟨"Str", 192, 9, false, "", "", 40⟩, ⟨"PtrToThis", 193, 10, false, "", "", 44⟩]) .leaf))))))
def sizeT : TT Nat := (.node (.node (.node (.node (.node (.node (.node .leaf 2 (1) .leaf) 3 (1) .leaf) 4 (1) (.node .leaf 5 (1) .leaf)) 7 (4) (.node (.node (.node .leaf 9 (1) .leaf) 12 (1) .leaf) 13 (2) (.node .leaf 15 (1) .leaf))) 16 (1) (.node (.node (.node (.node .leaf 17 (1) .leaf) 18 (1) .leaf) 21 (1) (.node .leaf 22 (1) .leaf)) 23 (1) (.node (.node (.node .leaf 24 (1) .leaf) 25 (1) .leaf) 26 (8) (.node .leaf 27 (8) .leaf)))) 28 (1) (.node (.node (.node (.node (.node .leaf 32 (1) .leaf) 33 (1) .leaf) 34 (2) (.node .leaf 35 (2) .leaf)) 36 (1) (.node (.node (.node .leaf 39 (1) .leaf) 41 (3) .leaf) 42 (3) (.node .leaf 45 (1) .leaf))) 46 (8) (.node (.node (.node (.node .leaf 47 (8) .leaf) 50 (2) .leaf) 51 (2) (.node .leaf 53 (1) .leaf)) 56 (2) (.node (.node (.node .leaf 57 (2) .leaf) 60 (3) .leaf) 61 (3) (.node .leaf 63 (4) .leaf))))) 64 (4) (.node (.node (.node (.node (.node (.node .leaf 70 (3) .leaf) 71 (3) .leaf) 72 (3) (.node .leaf 73 (3) .leaf)) 78 (3) (.node (.node (.node .leaf 79 (3) .leaf) 83 (1) .leaf) 91 (1) (.node .leaf 92 (1) .leaf))) 93 (5) (.node (.node (.node (.node .leaf 94 (5) .leaf) 95 (2) .leaf) 96 (2) (.node .leaf 102 (1) .leaf)) 110 (1) (.node (.node (.node .leaf 113 (5) .leaf) 114 (5) .leaf) 120 (1) (.node .leaf 121 (1) .leaf)))) 122 (1) (.node (.node (.node (.node (.node .leaf 134 (3) .leaf) 135 (3) .leaf) 140 (8) (.node .leaf 141 (8) .leaf)) 143 (1) (.node (.node (.node .leaf 144 (1) .leaf) 159 (3) .leaf) 166 (2) (.node .leaf 167 (2) .leaf))) 172 (2) (.node (.node (.node (.node .leaf 173 (6) .leaf) 176 (2) .leaf) 177 (1) (.node .leaf 180 (256) .leaf)) 182 (4) (.node (.node (.node .leaf 184 (0) .leaf) 185 (0) .leaf) 191 (1) (.node .leaf 194 (11) .leaf))))))
def zeroT : TT (List Value) := (.node (.node (.node (.node (.node (.node (.node .leaf 2 ([.int .i64 0]) .leaf) 3 ([.int .i64 0]) .leaf) 4 ([.bool false]) (.node .leaf 5 ([.int .u8 0]) .leaf)) 7 ([.int .i64 0, .int .i64 0, .bool false, .int .u8 0]) (.node (.node (.node .leaf 9 ([.string ⟨#[]⟩]) .leaf) 12 ([.int .u64 0]) .leaf) 13 ([.string ⟨#[]⟩, .int .u64 0]) (.node .leaf 15 ([.pointer none]) .leaf))) 16 ([.pointer none]) (.node (.node (.node (.node .leaf 17 ([.pointer none]) .leaf) 18 ([.pointer none]) .leaf) 21 ([.int .i32 0]) (.node .leaf 22 ([.slice none 0 0]) .leaf)) 23 ([.slice none 0 0]) (.node (.node (.node .leaf 24 ([.int .u32 0]) .leaf) 25 ([.slice none 0 0]) .leaf) 26 ([.int .u8 0, .int .u8 0, .slice none 0 0, .slice none 0 0, .slice none 0 0, .int .u32 0, .int .u8 0, .slice none 0 0]) (.node .leaf 27 ([.int .u8 0, .int .u8 0, .slice none 0 0, .slice none 0 0, .slice none 0 0, .int .u32 0, .int .u8 0, .slice none 0 0]) .leaf)))) 28 ([.slice none 0 0]) (.node (.node (.node (.node (.node .leaf 32 ([.int .u16 0]) .leaf) 33 ([.int .u64 0]) .leaf) 34 ([.int .u16 0, .int .u64 0]) (.node .leaf 35 ([.int .u16 0, .int .u64 0]) .leaf)) 36 ([.int .i64 0]) (.node (.node (.node .leaf 39 ([.slice none 0 0]) .leaf) 41 ([.int .i64 0, .int .i64 0, .int .u64 0]) .leaf) 42 ([.int .i64 0, .int .i64 0, .int .u64 0]) (.node .leaf 45 ([.slice none 0 0]) .leaf))) 46 ([.int .u8 0, .int .u8 0, .slice none 0 0, .slice none 0 0, .slice none 0 0, .int .u64 0, .int .u64 0, .slice none 0 0]) (.node (.node (.node (.node .leaf 47 ([.int .u8 0, .int .u8 0, .slice none 0 0, .slice none 0 0, .slice none 0 0, .int .u64 0, .int .u64 0, .slice none 0 0]) .leaf) 50 ([.int .i64 0, .int .i64 0]) .leaf) 51 ([.int .i64 0, .int .i64 0]) (.node .leaf 53 ([.slice none 0 0]) .leaf)) 56 ([.int .i64 0, .int .i64 0]) (.node (.node .leaf 57 ([.int .i64 0, .int .i64 0]) .leaf) 60 ([.int .i64 0, .int .i64 0, .int .i64 0]) (.node .leaf 61 ([.int .i64 0, .int .i64 0, .int .i64 0]) .leaf))))) 63 ([.int .i64 0, .int .i64 0, .int .u64 0, .slice none 0 0]) (.node (.node (.node (.node (.node (.node .leaf 64 ([.int .i64 0, .int .i64 0, .int .u64 0, .slice none 0 0]) .leaf) 70 ([.int .i64 0, .int .i64 0, .int .u64 0]) .leaf) 71 ([.int .i64 0, .int .i64 0, .int .u64 0]) (.node .leaf 72 ([.slice none 0 0, .int .i64 0, .int .i64 0]) .leaf)) 73 ([.slice none 0 0, .int .i64 0, .int .i64 0]) (.node (.node (.node .leaf 78 ([.int .i64 0, .int .i64 0, .int .u64 0]) .leaf) 79 ([.int .i64 0, .int .i64 0, .int .u64 0]) .leaf) 83 ([.slice none 0 0]) (.node .leaf 91 ([.slice none 0 0]) .leaf))) 92 ([.slice none 0 0]) (.node (.node (.node (.node .leaf 93 ([.int .u8 0, .int .u8 0, .int .u64 0, .slice none 0 0, .slice none 0 0]) .leaf) 94 ([.int .u8 0, .int .u8 0, .int .u64 0, .slice none 0 0, .slice none 0 0]) .leaf) 95 ([.int .i64 0, .slice none 0 0]) (.node .leaf 96 ([.int .i64 0, .slice none 0 0]) .leaf)) 102 ([.slice none 0 0]) (.node (.node (.node .leaf 110 ([.slice none 0 0]) .leaf) 113 ([.int .i64 0, .int .i64 0, .int .i64 0, .int .i64 0, .int .u64 0]) .leaf) 114 ([.int .i64 0, .int .i64 0, .int .i64 0, .int .i64 0, .int .u64 0]) (.node .leaf 120 ([.nilFunc]) .leaf)))) 121 ([.nilFunc]) (.node (.node (.node (.node (.node .leaf 122 ([.slice none 0 0]) .leaf) 134 ([.int .i64 0, .int .i64 0, .int .u64 0]) .leaf) 135 ([.int .i64 0, .int .i64 0, .int .u64 0]) (.node .leaf 140 ([.int .u64 0, .int .u64 0, .int .u64 0, .int .u64 0, .int .u64 0, .int .u64 0, .int .u64 0, .int .u64 0]) .leaf)) 141 ([.int .u64 0, .int .u64 0, .int .u64 0, .int .u64 0, .int .u64 0, .int .u64 0, .int .u64 0, .int .u64 0]) (.node (.node (.node .leaf 144 ([.int .u64 0]) .leaf) 159 ([.int .i64 0, .int .i64 0, .int .i64 0]) .leaf) 166 ([.int .i64 0, .int .i64 0]) (.node .leaf 167 ([.int .i64 0, .int .i64 0]) .leaf))) 172 ([.int .i64 0, .int .i64 0]) (.node (.node (.node (.node .leaf 173 ([.int .i64 0, .int .i64 0, .int .i64 0, .int .i64 0, .int .i64 0, .int .i64 0]) .leaf) 176 ([.nilFunc, .int .u64 0]) .leaf) 177 ([.slice none 0 0]) (.node .leaf 182 ([.pointer none, .pointer none, .pointer none, .string ⟨#[]⟩]) .leaf)) 184 ([]) (.node (.node .leaf 185 ([]) .leaf) 191 ([.pointer none]) (.node .leaf 194 ([.int .u64 0, .int .u64 0, .int .u32 0, .int .u8 0, .int .u8 0, .int .u8 0, .int .u8 0, .nilFunc, .pointer none, .int .i32 0, .int .i32 0]) .leaf))))))
def gl0 : List (Nat × Nat × Value) := [(0, 0, .int .i64 4), (0, 1, .int .i64 8), (0, 2, .int .i64 16)]
noncomputable def Tg (g : List (Nat × Nat × Value)) : Tab where
 Γ := Γ
 und := undT.find
 size := sizeT.find
 zero := zeroT.find
 cells := fun e => cellsT (elT e)
 enc := fun e => encT (elT e)
 rep := fun _ _ _ _ _ => False
 globs := g
 std := fun e => stdOf (elT e)
 flat := fun e => flatOf (elT e)
noncomputable abbrev T : Tab := Tg gl0
end Go.Proofs.YtbbpcbjgekencaaGreatDoor.Ev
end
section
set_option linter.unusedVariables false
set_option linter.unusedSimpArgs false
set_option linter.unusedVariables false
set_option maxRecDepth 100000
namespace Go.Proofs.YtbbpcbjgekencaaGreatDoor.Ev
open Go Go.RowKit Go.Proofs.YtbbpcbjgekencaaGreatDoor.Q
theorem fa_nil {β : Type _} {p : β → Prop} : ∀ x ∈ ([] : List β), p x := fun x h => by cases h
theorem fa_cons {β : Type _} {p : β → Prop} {x : β} {l : List β} (h : p x) (t : ∀ y ∈ l, p y) : ∀ y ∈ x :: l, p y := fun y hy => by
 cases hy with
 | head => exact h
 | tail _ hy => exact t y hy
theorem find_mem {β : Type} : ∀ {t : TT β} {e : Nat} {v : β}, t.find e = some v → (e, v) ∈ t.list := by
 intro t
 induction t with
 | leaf => intro e v h; cases h
 | node l k x r ihl ihr =>
  intro e v h
  simp only [TT.find] at h
  simp only [TT.list, List.mem_append, List.mem_cons]
  split at h
  ·rename_i hb
   have := Nat.eq_of_beq_eq_true hb
   subst this
   simp only [Option.some.injEq] at h
   subst h
   exact .inr (.inl rfl)
  ·split at h
   ·exact .inl (ihl h)
   ·exact .inr (.inr (ihr h))
theorem map_at {α β : Type} {l : List α} {f g : α → β} (h : l.map f = l.map g) {x : α} (hx : x ∈ l) : f x = g x := by
 induction l with
 | nil => cases hx
 | cons y r ih =>
  simp only [List.map_cons, List.cons.injEq] at h
  cases hx with
  | head => exact h.1
  | tail _ hx => exact ih h.2 hx
theorem all_plain {z : List Value} (h : z.all plain = true) : ∀ v, v ∈ z → plain v = true := fun v hv => List.all_eq_true.mp h v hv
def ZeroL : List Value → List (CV Γ) → Prop
 | [], [] => True
 | a :: r, b :: r' => (b = .c a ∨ ((∃ e', b = .sl .near e' []) ∧ a = .slice none 0 0)) ∧ ZeroL r r'
 | _, _ => False
theorem zeroL_spec : ∀ {z : List Value} {l : List (CV Γ)}, ZeroL z l → z.length = l.length ∧ ∀ (j : Nat) a b, z[j]? = some a → l[j]? = some b → b = .c a ∨ ((∃ e', b = .sl .near e' []) ∧ a = .slice none 0 0)
 | [], [], _ => ⟨rfl, fun j a b h => by simp at h⟩
 | x :: z, y :: l, h => by
  obtain ⟨h1, h2⟩ := zeroL_spec h.2
  refine ⟨by simp [h1], fun j a b ha hb => ?_⟩
  cases j with
  | zero => simp only [List.getElem?_cons_zero, Option.some.injEq] at ha hb; subst ha; subst hb; exact h.1
  | succ j => exact h2 j a b (by simpa using ha) (by simpa using hb)
theorem und_all : undT.list.map (fun p => Tryz.prog.underlying p.1) = undT.list.map (fun p => some p.2) := by kernel_rfl
theorem size_all : sizeT.list.map (fun p => (Tryz.prog.info? p.1).map (·.size)) = sizeT.list.map (fun p => some p.2) := by kernel_rfl
theorem zero_all : zeroT.list.map (fun p => (Tryz.prog.info? p.1).bind fun i => i.zero.map fun v => v.cells.toList) = zeroT.list.map (fun p => some p.2) := by kernel_rfl
theorem is3 {e : TypeId} (h : elT e = .t3) : e = 3 := by
 unfold elT at h
 split at h <;> first | rfl | cases h
theorem is5 {e : TypeId} (h : elT e = .t5) : e = 5 := by
 unfold elT at h
 split at h <;> first | rfl | cases h
theorem is32 {e : TypeId} (h : elT e = .t32) : e = 32 := by
 unfold elT at h
 split at h <;> first | rfl | cases h
theorem is33 {e : TypeId} (h : elT e = .t33) : e = 33 := by
 unfold elT at h
 split at h <;> first | rfl | cases h
theorem is35 {e : TypeId} (h : elT e = .t35) : e = 35 := by
 unfold elT at h
 split at h <;> first | rfl | cases h
theorem is57 {e : TypeId} (h : elT e = .t57) : e = 57 := by
 unfold elT at h
 split at h <;> first | rfl | cases h
theorem is61 {e : TypeId} (h : elT e = .t61) : e = 61 := by
 unfold elT at h
 split at h <;> first | rfl | cases h
theorem is64 {e : TypeId} (h : elT e = .t64) : e = 64 := by
 unfold elT at h
 split at h <;> first | rfl | cases h
theorem is94 {e : TypeId} (h : elT e = .t94) : e = 94 := by
 unfold elT at h
 split at h <;> first | rfl | cases h
theorem is96 {e : TypeId} (h : elT e = .t96) : e = 96 := by
 unfold elT at h
 split at h <;> first | rfl | cases h
theorem is114 {e : TypeId} (h : elT e = .t114) : e = 114 := by
 unfold elT at h
 split at h <;> first | rfl | cases h
theorem is135 {e : TypeId} (h : elT e = .t135) : e = 135 := by
 unfold elT at h
 split at h <;> first | rfl | cases h
theorem cells_form0 : ∀ (t : ElT) (x : (elOf t).ty), ∀ cv ∈ cellsT t x, (∃ v, cv = .c v ∧ v.oneCell' = true) ∨ ((∃ e' l', cv = .sl .near e' l') ∧ flatOf t = false)
 | .no, _ => fa_nil
 | .t3, _ => (fa_cons (.inl ⟨_, rfl, rfl⟩) fa_nil)
 | .t5, _ => (fa_cons (.inl ⟨_, rfl, rfl⟩) fa_nil)
 | .t32, _ => (fa_cons (.inl ⟨_, rfl, rfl⟩) fa_nil)
 | .t33, _ => (fa_cons (.inl ⟨_, rfl, rfl⟩) fa_nil)
 | .t35, _ => (fa_cons (.inl ⟨_, rfl, rfl⟩) (fa_cons (.inl ⟨_, rfl, rfl⟩) fa_nil))
 | .t57, _ => (fa_cons (.inl ⟨_, rfl, rfl⟩) (fa_cons (.inl ⟨_, rfl, rfl⟩) fa_nil))
 | .t61, _ => (fa_cons (.inl ⟨_, rfl, rfl⟩) (fa_cons (.inl ⟨_, rfl, rfl⟩) (fa_cons (.inl ⟨_, rfl, rfl⟩) fa_nil)))
 | .t64, _ => (fa_cons (.inl ⟨_, rfl, rfl⟩) (fa_cons (.inl ⟨_, rfl, rfl⟩) (fa_cons (.inl ⟨_, rfl, rfl⟩) (fa_cons (.inr ⟨⟨_, _, rfl⟩, rfl⟩) fa_nil))))
 | .t94, _ => (fa_cons (.inl ⟨_, rfl, rfl⟩) (fa_cons (.inl ⟨_, rfl, rfl⟩) (fa_cons (.inl ⟨_, rfl, rfl⟩) (fa_cons (.inr ⟨⟨_, _, rfl⟩, rfl⟩) (fa_cons (.inr ⟨⟨_, _, rfl⟩, rfl⟩) fa_nil)))))
 | .t96, _ => (fa_cons (.inl ⟨_, rfl, rfl⟩) (fa_cons (.inr ⟨⟨_, _, rfl⟩, rfl⟩) fa_nil))
 | .t114, _ => (fa_cons (.inl ⟨_, rfl, rfl⟩) (fa_cons (.inl ⟨_, rfl, rfl⟩) (fa_cons (.inl ⟨_, rfl, rfl⟩) (fa_cons (.inl ⟨_, rfl, rfl⟩) (fa_cons (.inl ⟨_, rfl, rfl⟩) fa_nil)))))
 | .t135, _ => (fa_cons (.inl ⟨_, rfl, rfl⟩) (fa_cons (.inl ⟨_, rfl, rfl⟩) (fa_cons (.inl ⟨_, rfl, rfl⟩) fa_nil)))
theorem cells_form (e : TypeId) (x : (Γ.el e).ty) : ∀ cv ∈ cellsT (elT e) x, (∃ v, cv = .c v ∧ v.oneCell' = true) ∨ ((∃ e' l', cv = .sl .near e' l') ∧ flatOf (elT e) = false) := cells_form0 (elT e) x
theorem cells_count0 : ∀ (t : ElT) (x : (elOf t).ty), (cellsT t x).length = (elOf t).n
 | .no, _ => rfl
 | .t3, _ => rfl
 | .t5, _ => rfl
 | .t32, _ => rfl
 | .t33, _ => rfl
 | .t35, _ => rfl
 | .t57, _ => rfl
 | .t61, _ => rfl
 | .t64, _ => rfl
 | .t94, _ => rfl
 | .t96, _ => rfl
 | .t114, _ => rfl
 | .t135, _ => rfl
theorem slD_spec {ω : Type} {e : TypeId} {x : CV Γ} {K : List (Γ.el e).ty → Option ω} {r : ω} (h : slD e x K = some r) : ∃ l, K l = some r ∧ ((∃ p, x = .sl p e l) ∨ (x = .c (.slice none 0 0) ∧ l = [])) := by
 unfold slD at h
 split at h
 ·rename_i p e' l
  split at h
  ·rename_i he
   subst he
   exact ⟨l, h, .inl ⟨p, rfl⟩⟩
  ·cases h
 ·exact ⟨[], h, .inr ⟨rfl, rfl⟩⟩
 ·cases h
def EncOne (a b : CV Γ) : Prop := (∃ v, a = .c v ∧ b = .c v) ∨ (∃ p e' l', a = .sl p e' l' ∧ b = .sl .near e' l') ∨ (∃ e', a = .c (.slice none 0 0) ∧ b = .sl .near e' [])
def EncL : List (CV Γ) → List (CV Γ) → Prop
 | [], [] => True
 | a :: r, b :: r' => EncOne a b ∧ EncL r r'
 | _, _ => False
theorem encL_spec : ∀ {l r : List (CV Γ)}, EncL l r → l.length = r.length ∧ ∀ (j : Nat) a b, l[j]? = some a → r[j]? = some b → EncOne a b
 | [], [], _ => ⟨rfl, fun j a b h => by simp at h⟩
 | a :: l, b :: r, h => by
  obtain ⟨h1, h2⟩ := encL_spec h.2
  refine ⟨by simp [h1], fun j x y hx hy => ?_⟩
  cases j with
  | zero => simp only [List.getElem?_cons_zero, Option.some.injEq] at hx hy; subst hx; subst hy; exact h.1
  | succ j => exact h2 j x y (by simpa using hx) (by simpa using hy)
theorem encOne_c (v : Value) : EncOne (.c v) (.c v) := .inl ⟨v, rfl, rfl⟩
theorem encOne_s {e : TypeId} {x : CV Γ} {l : List (Γ.el e).ty} (h : (∃ p, x = .sl p e l) ∨ (x = .c (.slice none 0 0) ∧ l = [])) : EncOne x (.sl .near e l) := by
 rcases h with ⟨p, rfl⟩ | ⟨rfl, rfl⟩
 ·exact .inr (.inl ⟨p, e, l, rfl, rfl⟩)
 ·exact .inr (.inr ⟨e, rfl, rfl⟩)
theorem enc_form0 : ∀ (t : ElT) (l : List (CV Γ)) (x : (elOf t).ty), encT t l = some x → EncL l (cellsT t x)
 | .no, l, x, h => by cases h
 | .t3, l, x, h => by
  simp only [encT] at h
  split at h
  ·cases h
   exact ⟨encOne_c _, trivial⟩
  ·cases h
 | .t5, l, x, h => by
  simp only [encT] at h
  split at h
  ·cases h
   exact ⟨encOne_c _, trivial⟩
  ·cases h
 | .t32, l, x, h => by
  simp only [encT] at h
  split at h
  ·cases h
   exact ⟨encOne_c _, trivial⟩
  ·cases h
 | .t33, l, x, h => by
  simp only [encT] at h
  split at h
  ·cases h
   exact ⟨encOne_c _, trivial⟩
  ·cases h
 | .t35, l, x, h => by
  simp only [encT] at h
  split at h
  ·cases h
   exact ⟨encOne_c _, encOne_c _, trivial⟩
  ·cases h
 | .t57, l, x, h => by
  simp only [encT] at h
  split at h
  ·cases h
   exact ⟨encOne_c _, encOne_c _, trivial⟩
  ·cases h
 | .t61, l, x, h => by
  simp only [encT] at h
  split at h
  ·cases h
   exact ⟨encOne_c _, encOne_c _, encOne_c _, trivial⟩
  ·cases h
 | .t64, l, x, h => by
  simp only [encT] at h
  split at h
  ·obtain ⟨y3, h, s3⟩ := slD_spec h
   cases h
   exact ⟨encOne_c _, encOne_c _, encOne_c _, encOne_s s3, trivial⟩
  ·cases h
 | .t94, l, x, h => by
  simp only [encT] at h
  split at h
  ·obtain ⟨y3, h, s3⟩ := slD_spec h
   obtain ⟨y4, h, s4⟩ := slD_spec h
   cases h
   exact ⟨encOne_c _, encOne_c _, encOne_c _, encOne_s s3, encOne_s s4, trivial⟩
  ·cases h
 | .t96, l, x, h => by
  simp only [encT] at h
  split at h
  ·obtain ⟨y1, h, s1⟩ := slD_spec h
   cases h
   exact ⟨encOne_c _, encOne_s s1, trivial⟩
  ·cases h
 | .t114, l, x, h => by
  simp only [encT] at h
  split at h
  ·cases h
   exact ⟨encOne_c _, encOne_c _, encOne_c _, encOne_c _, encOne_c _, trivial⟩
  ·cases h
 | .t135, l, x, h => by
  simp only [encT] at h
  split at h
  ·cases h
   exact ⟨encOne_c _, encOne_c _, encOne_c _, trivial⟩
  ·cases h
theorem tab_std3 : (Tg []).size 3 = some ((Tg []).Γ.el 3).n ∧ 0 < ((Tg []).Γ.el 3).n ∧ ((Tg []).Γ.el 3).n ≤ 64 ∧ ∃ z, (Tg []).zero 3 = some z ∧ (z.length = ((Tg []).cells 3 ((Tg []).Γ.el 3).z).length ∧ ∀ (j : Nat) a b, z[j]? = some a → ((Tg []).cells 3 ((Tg []).Γ.el 3).z)[j]? = some b → b = .c a ∨ ((∃ e', b = .sl .near e' []) ∧ a = .slice none 0 0)) ∧ (∀ v ∈ z, plain v = true) :=
 ⟨by kernel_rfl, of_decide_eq_true (by kernel_rfl), of_decide_eq_true (by kernel_rfl), [.int .i64 0], by kernel_rfl, zeroL_spec (l := (Tg []).cells 3 ((Tg []).Γ.el 3).z) ⟨.inl rfl, trivial⟩, fun v hv => by revert v; exact all_plain (by kernel_rfl)⟩
theorem tab_bytes3 : (Tryz.prog.info? 3).map (·.bytes) = some 8 := by kernel_rfl
theorem tab_std5 : (Tg []).size 5 = some ((Tg []).Γ.el 5).n ∧ 0 < ((Tg []).Γ.el 5).n ∧ ((Tg []).Γ.el 5).n ≤ 64 ∧ ∃ z, (Tg []).zero 5 = some z ∧ (z.length = ((Tg []).cells 5 ((Tg []).Γ.el 5).z).length ∧ ∀ (j : Nat) a b, z[j]? = some a → ((Tg []).cells 5 ((Tg []).Γ.el 5).z)[j]? = some b → b = .c a ∨ ((∃ e', b = .sl .near e' []) ∧ a = .slice none 0 0)) ∧ (∀ v ∈ z, plain v = true) :=
 ⟨by kernel_rfl, of_decide_eq_true (by kernel_rfl), of_decide_eq_true (by kernel_rfl), [.int .u8 0], by kernel_rfl, zeroL_spec (l := (Tg []).cells 5 ((Tg []).Γ.el 5).z) ⟨.inl rfl, trivial⟩, fun v hv => by revert v; exact all_plain (by kernel_rfl)⟩
theorem tab_bytes5 : (Tryz.prog.info? 5).map (·.bytes) = some 1 := by kernel_rfl
theorem tab_std32 : (Tg []).size 32 = some ((Tg []).Γ.el 32).n ∧ 0 < ((Tg []).Γ.el 32).n ∧ ((Tg []).Γ.el 32).n ≤ 64 ∧ ∃ z, (Tg []).zero 32 = some z ∧ (z.length = ((Tg []).cells 32 ((Tg []).Γ.el 32).z).length ∧ ∀ (j : Nat) a b, z[j]? = some a → ((Tg []).cells 32 ((Tg []).Γ.el 32).z)[j]? = some b → b = .c a ∨ ((∃ e', b = .sl .near e' []) ∧ a = .slice none 0 0)) ∧ (∀ v ∈ z, plain v = true) :=
 ⟨by kernel_rfl, of_decide_eq_true (by kernel_rfl), of_decide_eq_true (by kernel_rfl), [.int .u16 0], by kernel_rfl, zeroL_spec (l := (Tg []).cells 32 ((Tg []).Γ.el 32).z) ⟨.inl rfl, trivial⟩, fun v hv => by revert v; exact all_plain (by kernel_rfl)⟩
theorem tab_bytes32 : (Tryz.prog.info? 32).map (·.bytes) = some 2 := by kernel_rfl
theorem tab_std33 : (Tg []).size 33 = some ((Tg []).Γ.el 33).n ∧ 0 < ((Tg []).Γ.el 33).n ∧ ((Tg []).Γ.el 33).n ≤ 64 ∧ ∃ z, (Tg []).zero 33 = some z ∧ (z.length = ((Tg []).cells 33 ((Tg []).Γ.el 33).z).length ∧ ∀ (j : Nat) a b, z[j]? = some a → ((Tg []).cells 33 ((Tg []).Γ.el 33).z)[j]? = some b → b = .c a ∨ ((∃ e', b = .sl .near e' []) ∧ a = .slice none 0 0)) ∧ (∀ v ∈ z, plain v = true) :=
 ⟨by kernel_rfl, of_decide_eq_true (by kernel_rfl), of_decide_eq_true (by kernel_rfl), [.int .u64 0], by kernel_rfl, zeroL_spec (l := (Tg []).cells 33 ((Tg []).Γ.el 33).z) ⟨.inl rfl, trivial⟩, fun v hv => by revert v; exact all_plain (by kernel_rfl)⟩
theorem tab_bytes33 : (Tryz.prog.info? 33).map (·.bytes) = some 8 := by kernel_rfl
theorem tab_std35 : (Tg []).size 35 = some ((Tg []).Γ.el 35).n ∧ 0 < ((Tg []).Γ.el 35).n ∧ ((Tg []).Γ.el 35).n ≤ 64 ∧ ∃ z, (Tg []).zero 35 = some z ∧ (z.length = ((Tg []).cells 35 ((Tg []).Γ.el 35).z).length ∧ ∀ (j : Nat) a b, z[j]? = some a → ((Tg []).cells 35 ((Tg []).Γ.el 35).z)[j]? = some b → b = .c a ∨ ((∃ e', b = .sl .near e' []) ∧ a = .slice none 0 0)) ∧ (∀ v ∈ z, plain v = true) :=
 ⟨by kernel_rfl, of_decide_eq_true (by kernel_rfl), of_decide_eq_true (by kernel_rfl), [.int .u16 0, .int .u64 0], by kernel_rfl, zeroL_spec (l := (Tg []).cells 35 ((Tg []).Γ.el 35).z) ⟨.inl rfl, ⟨.inl rfl, trivial⟩⟩, fun v hv => by revert v; exact all_plain (by kernel_rfl)⟩
theorem tab_bytes35 : (Tryz.prog.info? 35).map (·.bytes) = some 16 := by kernel_rfl
theorem tab_std57 : (Tg []).size 57 = some ((Tg []).Γ.el 57).n ∧ 0 < ((Tg []).Γ.el 57).n ∧ ((Tg []).Γ.el 57).n ≤ 64 ∧ ∃ z, (Tg []).zero 57 = some z ∧ (z.length = ((Tg []).cells 57 ((Tg []).Γ.el 57).z).length ∧ ∀ (j : Nat) a b, z[j]? = some a → ((Tg []).cells 57 ((Tg []).Γ.el 57).z)[j]? = some b → b = .c a ∨ ((∃ e', b = .sl .near e' []) ∧ a = .slice none 0 0)) ∧ (∀ v ∈ z, plain v = true) :=
 ⟨by kernel_rfl, of_decide_eq_true (by kernel_rfl), of_decide_eq_true (by kernel_rfl), [.int .i64 0, .int .i64 0], by kernel_rfl, zeroL_spec (l := (Tg []).cells 57 ((Tg []).Γ.el 57).z) ⟨.inl rfl, ⟨.inl rfl, trivial⟩⟩, fun v hv => by revert v; exact all_plain (by kernel_rfl)⟩
theorem tab_bytes57 : (Tryz.prog.info? 57).map (·.bytes) = some 16 := by kernel_rfl
theorem tab_std61 : (Tg []).size 61 = some ((Tg []).Γ.el 61).n ∧ 0 < ((Tg []).Γ.el 61).n ∧ ((Tg []).Γ.el 61).n ≤ 64 ∧ ∃ z, (Tg []).zero 61 = some z ∧ (z.length = ((Tg []).cells 61 ((Tg []).Γ.el 61).z).length ∧ ∀ (j : Nat) a b, z[j]? = some a → ((Tg []).cells 61 ((Tg []).Γ.el 61).z)[j]? = some b → b = .c a ∨ ((∃ e', b = .sl .near e' []) ∧ a = .slice none 0 0)) ∧ (∀ v ∈ z, plain v = true) :=
 ⟨by kernel_rfl, of_decide_eq_true (by kernel_rfl), of_decide_eq_true (by kernel_rfl), [.int .i64 0, .int .i64 0, .int .i64 0], by kernel_rfl, zeroL_spec (l := (Tg []).cells 61 ((Tg []).Γ.el 61).z) ⟨.inl rfl, ⟨.inl rfl, ⟨.inl rfl, trivial⟩⟩⟩, fun v hv => by revert v; exact all_plain (by kernel_rfl)⟩
theorem tab_bytes61 : (Tryz.prog.info? 61).map (·.bytes) = some 24 := by kernel_rfl
theorem tab_std64 : (Tg []).size 64 = some ((Tg []).Γ.el 64).n ∧ 0 < ((Tg []).Γ.el 64).n ∧ ((Tg []).Γ.el 64).n ≤ 64 ∧ ∃ z, (Tg []).zero 64 = some z ∧ (z.length = ((Tg []).cells 64 ((Tg []).Γ.el 64).z).length ∧ ∀ (j : Nat) a b, z[j]? = some a → ((Tg []).cells 64 ((Tg []).Γ.el 64).z)[j]? = some b → b = .c a ∨ ((∃ e', b = .sl .near e' []) ∧ a = .slice none 0 0)) ∧ (∀ v ∈ z, plain v = true) :=
 ⟨by kernel_rfl, of_decide_eq_true (by kernel_rfl), of_decide_eq_true (by kernel_rfl), [.int .i64 0, .int .i64 0, .int .u64 0, .slice none 0 0], by kernel_rfl, zeroL_spec (l := (Tg []).cells 64 ((Tg []).Γ.el 64).z) ⟨.inl rfl, ⟨.inl rfl, ⟨.inl rfl, ⟨.inr ⟨⟨_, rfl⟩, rfl⟩, trivial⟩⟩⟩⟩, fun v hv => by revert v; exact all_plain (by kernel_rfl)⟩
theorem tab_bytes64 : (Tryz.prog.info? 64).map (·.bytes) = some 48 := by kernel_rfl
theorem tab_std94 : (Tg []).size 94 = some ((Tg []).Γ.el 94).n ∧ 0 < ((Tg []).Γ.el 94).n ∧ ((Tg []).Γ.el 94).n ≤ 64 ∧ ∃ z, (Tg []).zero 94 = some z ∧ (z.length = ((Tg []).cells 94 ((Tg []).Γ.el 94).z).length ∧ ∀ (j : Nat) a b, z[j]? = some a → ((Tg []).cells 94 ((Tg []).Γ.el 94).z)[j]? = some b → b = .c a ∨ ((∃ e', b = .sl .near e' []) ∧ a = .slice none 0 0)) ∧ (∀ v ∈ z, plain v = true) :=
 ⟨by kernel_rfl, of_decide_eq_true (by kernel_rfl), of_decide_eq_true (by kernel_rfl), [.int .u8 0, .int .u8 0, .int .u64 0, .slice none 0 0, .slice none 0 0], by kernel_rfl, zeroL_spec (l := (Tg []).cells 94 ((Tg []).Γ.el 94).z) ⟨.inl rfl, ⟨.inl rfl, ⟨.inl rfl, ⟨.inr ⟨⟨_, rfl⟩, rfl⟩, ⟨.inr ⟨⟨_, rfl⟩, rfl⟩, trivial⟩⟩⟩⟩⟩, fun v hv => by revert v; exact all_plain (by kernel_rfl)⟩
theorem tab_bytes94 : (Tryz.prog.info? 94).map (·.bytes) = some 64 := by kernel_rfl
theorem tab_std96 : (Tg []).size 96 = some ((Tg []).Γ.el 96).n ∧ 0 < ((Tg []).Γ.el 96).n ∧ ((Tg []).Γ.el 96).n ≤ 64 ∧ ∃ z, (Tg []).zero 96 = some z ∧ (z.length = ((Tg []).cells 96 ((Tg []).Γ.el 96).z).length ∧ ∀ (j : Nat) a b, z[j]? = some a → ((Tg []).cells 96 ((Tg []).Γ.el 96).z)[j]? = some b → b = .c a ∨ ((∃ e', b = .sl .near e' []) ∧ a = .slice none 0 0)) ∧ (∀ v ∈ z, plain v = true) :=
 ⟨by kernel_rfl, of_decide_eq_true (by kernel_rfl), of_decide_eq_true (by kernel_rfl), [.int .i64 0, .slice none 0 0], by kernel_rfl, zeroL_spec (l := (Tg []).cells 96 ((Tg []).Γ.el 96).z) ⟨.inl rfl, ⟨.inr ⟨⟨_, rfl⟩, rfl⟩, trivial⟩⟩, fun v hv => by revert v; exact all_plain (by kernel_rfl)⟩
theorem tab_bytes96 : (Tryz.prog.info? 96).map (·.bytes) = some 32 := by kernel_rfl
theorem tab_std114 : (Tg []).size 114 = some ((Tg []).Γ.el 114).n ∧ 0 < ((Tg []).Γ.el 114).n ∧ ((Tg []).Γ.el 114).n ≤ 64 ∧ ∃ z, (Tg []).zero 114 = some z ∧ (z.length = ((Tg []).cells 114 ((Tg []).Γ.el 114).z).length ∧ ∀ (j : Nat) a b, z[j]? = some a → ((Tg []).cells 114 ((Tg []).Γ.el 114).z)[j]? = some b → b = .c a ∨ ((∃ e', b = .sl .near e' []) ∧ a = .slice none 0 0)) ∧ (∀ v ∈ z, plain v = true) :=
 ⟨by kernel_rfl, of_decide_eq_true (by kernel_rfl), of_decide_eq_true (by kernel_rfl), [.int .i64 0, .int .i64 0, .int .i64 0, .int .i64 0, .int .u64 0], by kernel_rfl, zeroL_spec (l := (Tg []).cells 114 ((Tg []).Γ.el 114).z) ⟨.inl rfl, ⟨.inl rfl, ⟨.inl rfl, ⟨.inl rfl, ⟨.inl rfl, trivial⟩⟩⟩⟩⟩, fun v hv => by revert v; exact all_plain (by kernel_rfl)⟩
theorem tab_bytes114 : (Tryz.prog.info? 114).map (·.bytes) = some 40 := by kernel_rfl
theorem tab_std135 : (Tg []).size 135 = some ((Tg []).Γ.el 135).n ∧ 0 < ((Tg []).Γ.el 135).n ∧ ((Tg []).Γ.el 135).n ≤ 64 ∧ ∃ z, (Tg []).zero 135 = some z ∧ (z.length = ((Tg []).cells 135 ((Tg []).Γ.el 135).z).length ∧ ∀ (j : Nat) a b, z[j]? = some a → ((Tg []).cells 135 ((Tg []).Γ.el 135).z)[j]? = some b → b = .c a ∨ ((∃ e', b = .sl .near e' []) ∧ a = .slice none 0 0)) ∧ (∀ v ∈ z, plain v = true) :=
 ⟨by kernel_rfl, of_decide_eq_true (by kernel_rfl), of_decide_eq_true (by kernel_rfl), [.int .i64 0, .int .i64 0, .int .u64 0], by kernel_rfl, zeroL_spec (l := (Tg []).cells 135 ((Tg []).Γ.el 135).z) ⟨.inl rfl, ⟨.inl rfl, ⟨.inl rfl, trivial⟩⟩⟩, fun v hv => by revert v; exact all_plain (by kernel_rfl)⟩
theorem tab_bytes135 : (Tryz.prog.info? 135).map (·.bytes) = some 24 := by kernel_rfl
theorem tab_stds : ∀ e, stdOf (elT e) = true → (Tg []).size e = some ((Tg []).Γ.el e).n ∧ 0 < ((Tg []).Γ.el e).n ∧ ((Tg []).Γ.el e).n ≤ 64 ∧ ∃ z, (Tg []).zero e = some z ∧ (z.length = ((Tg []).cells e ((Tg []).Γ.el e).z).length ∧ ∀ (j : Nat) a b, z[j]? = some a → ((Tg []).cells e ((Tg []).Γ.el e).z)[j]? = some b → b = .c a ∨ ((∃ e', b = .sl .near e' []) ∧ a = .slice none 0 0)) ∧ (∀ v ∈ z, plain v = true) := by
 intro e h
 cases ht : elT e with
 | no => rw [ht] at h; cases h
 | t3 => have := is3 ht; subst this; exact tab_std3
 | t5 => have := is5 ht; subst this; exact tab_std5
 | t32 => have := is32 ht; subst this; exact tab_std32
 | t33 => have := is33 ht; subst this; exact tab_std33
 | t35 => have := is35 ht; subst this; exact tab_std35
 | t57 => have := is57 ht; subst this; exact tab_std57
 | t61 => have := is61 ht; subst this; exact tab_std61
 | t64 => have := is64 ht; subst this; exact tab_std64
 | t94 => have := is94 ht; subst this; exact tab_std94
 | t96 => have := is96 ht; subst this; exact tab_std96
 | t114 => have := is114 ht; subst this; exact tab_std114
 | t135 => have := is135 ht; subst this; exact tab_std135
theorem tab_bytess : ∀ e, stdOf (elT e) = true → ∀ i, Tryz.prog.info? e = some i → 0 < i.bytes ∧ i.bytes ≤ 128 := by
 intro e h i hi
 cases ht : elT e with
 | no => rw [ht] at h; cases h
 | t3 => have := is3 ht; subst this; have := tab_bytes3; rw [hi] at this; simp only [Option.map_some, Option.some.injEq] at this; omega
 | t5 => have := is5 ht; subst this; have := tab_bytes5; rw [hi] at this; simp only [Option.map_some, Option.some.injEq] at this; omega
 | t32 => have := is32 ht; subst this; have := tab_bytes32; rw [hi] at this; simp only [Option.map_some, Option.some.injEq] at this; omega
 | t33 => have := is33 ht; subst this; have := tab_bytes33; rw [hi] at this; simp only [Option.map_some, Option.some.injEq] at this; omega
 | t35 => have := is35 ht; subst this; have := tab_bytes35; rw [hi] at this; simp only [Option.map_some, Option.some.injEq] at this; omega
 | t57 => have := is57 ht; subst this; have := tab_bytes57; rw [hi] at this; simp only [Option.map_some, Option.some.injEq] at this; omega
 | t61 => have := is61 ht; subst this; have := tab_bytes61; rw [hi] at this; simp only [Option.map_some, Option.some.injEq] at this; omega
 | t64 => have := is64 ht; subst this; have := tab_bytes64; rw [hi] at this; simp only [Option.map_some, Option.some.injEq] at this; omega
 | t94 => have := is94 ht; subst this; have := tab_bytes94; rw [hi] at this; simp only [Option.map_some, Option.some.injEq] at this; omega
 | t96 => have := is96 ht; subst this; have := tab_bytes96; rw [hi] at this; simp only [Option.map_some, Option.some.injEq] at this; omega
 | t114 => have := is114 ht; subst this; have := tab_bytes114; rw [hi] at this; simp only [Option.map_some, Option.some.injEq] at this; omega
 | t135 => have := is135 ht; subst this; have := tab_bytes135; rw [hi] at this; simp only [Option.map_some, Option.some.injEq] at this; omega
theorem tab_ok (g : List (Nat × Nat × Value)) : TabOk (Tg g) Tryz.prog where
 stable := fun e x cv h => by
  rcases cells_form e x cv h with ⟨v, rfl, _⟩ | ⟨⟨e', l', rfl⟩, _⟩
  ·exact .inl ⟨v, rfl⟩
  ·exact .inr ⟨e', l', rfl⟩
 und := fun e d h => map_at und_all (find_mem h)
 size := fun e n h => map_at size_all (find_mem h)
 zero := fun e z h => by
  have h := map_at zero_all (find_mem h)
  simp only at h
  cases hi : Tryz.prog.info? e with
  | none => rw [hi] at h; cases h
  | some i =>
   rw [hi] at h
   cases hz : i.zero with
   | none => simp [hz] at h
   | some v => simp only [Option.bind_some, hz, Option.map_some, Option.some.injEq] at h; exact ⟨i, v, rfl, hz, h⟩
 count := fun e x => cells_count0 (elT e) x
 enc := fun e l x h => encL_spec (enc_form0 (elT e) l x h)
 std := tab_stds
 bytes := tab_bytess
 flat := fun e h x cv hc => by
  rcases cells_form e x cv hc with ⟨v, rfl, _⟩ | ⟨_, hf⟩
  ·exact ⟨v, rfl⟩
  ·rw [show flatOf (elT e) = true from h] at hf; cases hf
 frame := fun κ x v w w' φ h => h.elim
 inside := fun κ x v w φ h => h.elim
 one := fun κ x v w φ h => h.elim
 mixed := by kernel_rfl
 depth := of_decide_eq_true (by kernel_rfl)
 single := fun e x v hc => by
  rcases cells_form e x _ hc with ⟨u, h, hu⟩ | ⟨⟨e', l', h⟩, _⟩
  ·cases h; exact hu
  ·cases h
end Go.Proofs.YtbbpcbjgekencaaGreatDoor.Ev
end
section
set_option linter.unusedVariables false
set_option linter.unusedSimpArgs false
set_option linter.unusedVariables false
namespace Go.Proofs.YtbbpcbjgekencaaGreatDoor.Ev
open Go Go.RowKit Go.Proofs.YtbbpcbjgekencaaGreatDoor.Q Go.Proofs.YtbbpcbjgekencaaGreatDoorW.PrintWords
def E00 : Env := ⟨fun _ => none, fun _ => undef, fun _ _ => False, 0⟩
section
variable {T : Tab} {P : Program} {E : Env} {B : Pv → Nat → Prop} {w w' : World}
theorem own_none {E : Env} {g : Nat} : ¬ Own (T := T) E [] g := fun ⟨s, b, hb, _⟩ => by cases hb
abbrev Any (T : Tab) (w : World) : Pv → Nat → Prop := SB T w (Own (T := T) E00 []) (fun _ => True) E00 [] w
theorem any_far {g : Nat} (h : g < w.heap.size) : Any T w .far g := ⟨h, own_none, .inr trivial⟩
theorem ok_calls {id : FuncId} {F : EvForm T.Γ} (hok : CallOk T P id F.fn) {k : Nat} {ats : List (Atom T.Γ)} {r : F.R} (hf : F.f k ats = some r) {xs : List (AV T.Γ)} (h1 : (likeAs F.args xs && likeM F.lent []) = true) (h2 : atAs F.args xs ++ atM F.lent [] = ats)
  {vals : Array Value} (hv : ConcAs T E00 (Any T w) w xs vals.toList) (hg : GlobOk T E00 [] w) :
  Calls P id vals w fun e w' => ∃ x E', e = .returned x ∧ Left T (Own (T := T) E00 []) (fun _ => True) 0 E00 w (fillA (F.lets r) 0 F.res) (fillM (F.lets r) (cntA F.res) F.left) E' x w' := by
 have := hok.calls k xs [] (fillM (F.lets r) (cntA F.res) F.left) (fillA (F.lets r) 0 F.res) (by
  show F.spec k xs [] _ (fun v m => some (v, m)) = _
  unfold EvForm.spec
  rw [h1]
  simp only
  rw [h2, hf]
  rfl) E00 (fun _ => True) w vals.toList hv ⟨fun s b h => (by cases h), fun s s' g h _ => absurd ⟨s, h⟩ own_none⟩ hg
 simpa using this
theorem left_below {v : AV T.Γ} {m : Mem T.Γ} {E' : Env} {x : Value} (h : Left T (Own (T := T) E00 []) (fun _ => True) 0 E00 w v m E' x w') : Below w.heap.size w w' :=
 ⟨h.kept.os, h.kept.tape, h.kept.output, h.kept.size, fun k hk => h.kept.block k hk own_none⟩
theorem left_value {v : AV T.Γ} {m : Mem T.Γ} {E' : Env} {x u : Value} (h : Left T (Own (T := T) E00 []) (fun _ => True) 0 E00 w v m E' x w') (hu : toValue v = some u) : x = u := toValue_conc v u x hu h.val
structure Flat (T : Tab) (e : TypeId) (d : Kd (T.Γ.el e).ty) where
 vals : (T.Γ.el e).ty → List Value
 cells : ∀ x, T.cells e x = (vals x).map CV.c
 n : 0 < (T.Γ.el e).n
 sz : d.sz = (T.Γ.el e).n
 K : ∀ w x cs, d.K w x cs ↔ cs = vals x
 M : ∀ w base ok x cs, d.M w base ok x cs ↔ cs = vals x
theorem Flat.len (hT : TabOk T P) {e : TypeId} {d : Kd (T.Γ.el e).ty} (f : Flat T e d) (x : (T.Γ.el e).ty) : (f.vals x).length = (T.Γ.el e).n := by
 have := hT.count e x
 rw [f.cells, List.length_map] at this
 exact this
theorem Flat.q (hT : TabOk T P) {e : TypeId} {d : Kd (T.Γ.el e).ty} (f : Flat T e d) (p : Pv) (x : (T.Γ.el e).ty) : cellsQ T p e x = (f.vals x).map CV.c := by
 rw [cellsQ_at hT.stable, f.cells, List.map_map]
 rfl
theorem add_at (g off n : Nat) : (⟨g, off, none⟩ : Addr).add n = ⟨g, off + n, none⟩ := by
 unfold Addr.add
 split
 ·rename_i h; subst h; rfl
 ·rfl
theorem conc_of_C' (hT : TabOk T P) {e : TypeId} (d : Kd (T.Γ.el e).ty) (hsz : d.sz = (T.Γ.el e).n) {A : Option Addr} {xs : List (T.Γ.el e).ty} {c : Nat} (h : d.C w A xs.length xs) (hc : xs.length ≤ c)
  (hn : 0 < (T.Γ.el e).n) (hK : ∀ x cs, d.K w x cs → ConcL T E B w (cellsQ T .far e x) cs) (hB : ∀ a, A = some a → xs ≠ [] → a.block < w.heap.size → B .far a.block) : Conc T E B w (.sl .far e xs) (.slice A xs.length c) := by
 obtain ⟨_, _, h⟩ := h
 by_cases h0 : xs = []
 ·subst h0; exact .sl0 _ _ _ _
 ·have hpos : 0 < xs.length := List.length_pos_iff.mpr h0
  obtain ⟨⟨g, off, spot⟩, rfl, hcells⟩ := h hpos
  have : spot = none := by
   obtain ⟨cs, h1, h2, h3⟩ := hcells 0 _ (List.getElem?_eq_getElem hpos)
   have := h3 0 _ (List.getElem?_eq_getElem (by omega))
   rw [Nat.zero_mul, Nat.zero_add, show ((⟨g, off, spot⟩ : Addr).add 0) = ⟨g, off, spot⟩ from rfl] at this
   cases spot with
   | none => rfl
   | some s =>
    simp only [World.cell?] at this
    split at this
    ·cases this
    ·cases this
  subst this
  have get : ∀ i (hi : i < xs.length), ∃ cs, cs.length = d.sz ∧ d.K w xs[i] cs ∧ ∀ j u, cs[j]? = some u → w.cell? ⟨g, off + i * (T.Γ.el e).n + j, none⟩ = some u := fun i hi => by
   obtain ⟨cs, h1, h2, h3⟩ := hcells i _ (List.getElem?_eq_getElem hi)
   refine ⟨cs, h1, h2, fun j u hj => ?_⟩
   have := h3 j u hj
   rw [add_at, hsz, ← Nat.add_assoc] at this
   exact this
  refine .sl _ e xs g off c (fun i j => if h : i < xs.length then (Classical.choose (get i h)).getD j undef else undef) hc (hB _ rfl h0 ?_) (fun i hi j cv hj => ?_) (fun i hi j cv hj => ?_)
  ·obtain ⟨cs, h1, h2, h3⟩ := get 0 hpos
   have h0 : cs[0]? = some cs[0] := List.getElem?_eq_getElem (by omega)
   exact World.block_lt_of_cell? w ⟨g, off + 0 * (T.Γ.el e).n + 0, none⟩ (h3 0 _ h0)
  ·obtain ⟨h1, h2, h3⟩ := Classical.choose_spec (get i hi)
   have hl := (hK _ _ h2).1
   have hlt : j < (Classical.choose (get i hi)).length := by rw [hl]; exact (List.getElem?_eq_some_iff.mp hj).1
   rw [dif_pos hi, List.getD_eq_getElem?_getD, List.getElem?_eq_getElem hlt]
   exact h3 j _ (List.getElem?_eq_getElem hlt)
  ·obtain ⟨h1, h2, h3⟩ := Classical.choose_spec (get i hi)
   have hl := (hK _ _ h2).1
   have hlt : j < (Classical.choose (get i hi)).length := by rw [hl]; exact (List.getElem?_eq_some_iff.mp hj).1
   rw [dif_pos hi, List.getD_eq_getElem?_getD, List.getElem?_eq_getElem hlt]
   exact (hK _ _ h2).2 j cv _ hj (List.getElem?_eq_getElem hlt)
theorem conc_of_C (hT : TabOk T P) {e : TypeId} (d : Kd (T.Γ.el e).ty) (hsz : d.sz = (T.Γ.el e).n) {A : Option Addr} {xs : List (T.Γ.el e).ty} {c : Nat} (h : d.C w A xs.length xs) (hc : xs.length ≤ c)
  (hn : 0 < (T.Γ.el e).n) (hK : ∀ x cs, d.K w x cs → ConcL T E B w (cellsQ T .far e x) cs) (hB : ∀ g, g < w.heap.size → B .far g) : Conc T E B w (.sl .far e xs) (.slice A xs.length c) :=
 conc_of_C' hT d hsz h hc hn hK (fun a _ _ h => hB a.block h)
theorem Flat.K1 (hT : TabOk T P) {e : TypeId} {d : Kd (T.Γ.el e).ty} (f : Flat T e d) (x : (T.Γ.el e).ty) (cs : List Value) (h : d.K w x cs) : ConcL T E B w (cellsQ T .far e x) cs := by
 rw [f.q hT, (f.K w x cs).mp h]
 refine ⟨by simp, fun j cv v h1 h2 => ?_⟩
 rw [List.getElem?_map, h2] at h1
 simp only [Option.map_some, Option.some.injEq] at h1
 subst h1
 exact .c _
theorem Flat.C_of (hT : TabOk T P) {e : TypeId} {d : Kd (T.Γ.el e).ty} (f : Flat T e d) {p : Pv} {xs : List (T.Γ.el e).ty} {v : Value} (h : Conc T E B w (.sl p e xs) v) (hb : xs.length ≤ 9223372036854775807) :
  ∃ A c, v = .slice A xs.length c ∧ xs.length ≤ c ∧ d.C w A xs.length xs ∧ ∀ g, A.map (·.block) = some g → xs ≠ [] → B p g := by
 cases h with
 | sl0 p e A cap => exact ⟨A, cap, rfl, Nat.zero_le _, ⟨rfl, hb, fun h => absurd h (Nat.lt_irrefl 0)⟩, fun g _ h => absurd rfl h⟩
 | sl p e l g off cap y hc hB hy hz =>
  refine ⟨_, cap, rfl, hc, ⟨rfl, hb, fun _ => ⟨_, rfl, fun j x hj => ?_⟩⟩, fun g' h _ => by simp at h; subst h; exact hB⟩
  obtain ⟨hlt, rfl⟩ := List.getElem?_eq_some_iff.mp hj
  refine ⟨f.vals xs[j], by rw [f.len hT, f.sz], (f.K _ _ _).mpr rfl, fun i u hi => ?_⟩
  have hcell : (cellsQ T p e xs[j])[i]? = some (.c u) := by rw [f.q hT, List.getElem?_map, hi]; rfl
  have h1 := hy j hlt i _ hcell
  have h2 := hz j hlt i _ hcell
  rw [add_at, f.sz, ← Nat.add_assoc, h1]
  cases h2
  rfl
theorem Flat.R_of (hT : TabOk T P) {e : TypeId} {d : Kd (T.Γ.el e).ty} (f : Flat T e d) {s : Nat} {q : Bool} {xs : List (T.Γ.el e).ty} {base : Nat} (h : BlkOk T E B w s (.row q e xs)) (hb : ∀ g, E.φ s g → base ≤ g) :
  d.R e w base (fun _ => True) (E.σ s) xs := by
 refine ⟨fun _ _ => trivial, ?_⟩
 cases h with
 | row q e l g cap vs hg hf hh hs hc hv hcells =>
  have hval : ∀ (i : Nat) (hi : i < xs.length) (j : Nat) u, (f.vals xs[i])[j]? = some u → vs[i * (T.Γ.el e).n + j]? = some u := fun i hi j u hu => by
   obtain ⟨y, hy, hz⟩ := hcells i hi j (.c u) (by rw [f.q hT, List.getElem?_map, hu]; rfl)
   cases hz
   exact hy
  have hlen : xs.length * (T.Γ.el e).n ≤ vs.size := by rw [hv.1]; exact Nat.mul_le_mul_right _ hc
  refine ⟨vs.toList.take (xs.length * (T.Γ.el e).n), ⟨by rw [f.sz, List.length_take]; simp; omega, .inr ⟨g, cap, vs, hs, hb g ((hf g).mpr rfl), hh, hc, hv.2, by rw [f.sz]; exact hv.1, by rw [f.sz]⟩⟩, ?_, fun j p hj => ?_⟩
  ·rw [List.length_take, f.sz]; simp; omega
  ·obtain ⟨hlt, rfl⟩ := List.getElem?_eq_some_iff.mp hj
   rw [f.M, f.sz]
   apply List.ext_getElem?
   intro i
   rw [List.getElem?_take]
   by_cases hi : i < (T.Γ.el e).n
   ·rw [if_pos hi, List.getElem?_drop, List.getElem?_take]
    have h1 : j * (T.Γ.el e).n + i < xs.length * (T.Γ.el e).n := by
     have : (j + 1) * (T.Γ.el e).n ≤ xs.length * (T.Γ.el e).n := Nat.mul_le_mul_right _ hlt
     rw [Nat.add_mul] at this
     omega
    rw [if_pos h1]
    have hlx : i < (f.vals xs[j]).length := by rw [f.len hT]; exact hi
    have hu : (f.vals xs[j])[i]? = some (f.vals xs[j])[i] := List.getElem?_eq_getElem hlx
    rw [hu, Array.getElem?_toList]
    exact hval j hlt i _ hu
   ·rw [if_neg hi, List.getElem?_eq_none (by rw [f.len hT]; omega)]
 | nil q e hf hs =>
  rw [hs]
  exact OwnRow.none_ _ _ _ _ _
theorem Flat.row_of (hT : TabOk T P) {e : TypeId} {d : Kd (T.Γ.el e).ty} (f : Flat T e d) {E : Env} {s : Nat} {xs : List (T.Γ.el e).ty} {base : Nat} {ok : Nat → Prop} {v : Value} (h : d.R e w base ok v xs)
  (hρ : E.ρ s = v.ownBlock) (hσ : E.σ s = v) (hφ : ∀ g, E.φ s g ↔ v.ownBlock = some g) : BlkOk T E B w s (.row false e xs) ∧ ∀ g, v.ownBlock = some g → base ≤ g := by
 obtain ⟨_, inner, ⟨hl, ho⟩, hr, hrep⟩ := h
 rcases ho with ⟨rfl, h0⟩ | ⟨g, cap, cur, rfl, hbase, hh, hcap, hmax, hsz, htake⟩
 ·have : xs = [] := List.eq_nil_of_length_eq_zero h0
  subst this
  exact ⟨.nil _ _ (fun g hg => by have := (hφ g).mp hg; cases this) hσ, fun g hg => by cases hg⟩
 ·refine ⟨.row false e xs g cap cur hρ (fun g' => by rw [hφ]; simp [Value.ownBlock]; exact eq_comm) hh hσ hcap ⟨by rw [hsz, f.sz], hmax⟩ (fun i hi j cv hj => ?_), fun g' hg => by simp [Value.ownBlock] at hg; omega⟩
  rw [f.q hT, List.getElem?_map] at hj
  cases hu : (f.vals xs[i])[j]? with
  | none => rw [hu] at hj; cases hj
  | some u =>
   rw [hu] at hj
   simp only [Option.map_some, Option.some.injEq] at hj
   subst hj
   have h1 := hrep i _ (List.getElem?_eq_getElem hi)
   rw [f.M] at h1
   have h2 : ((inner.drop (i * d.sz)).take d.sz)[j]? = some u := by rw [h1]; exact hu
   have hjn : j < d.sz := by
    have := (List.getElem?_eq_some_iff.mp hu).1
    rw [f.len hT] at this
    rw [f.sz]
    exact this
   rw [List.getElem?_take, if_pos hjn, List.getElem?_drop, ← htake, List.getElem?_take] at h2
   split at h2
   ·refine ⟨u, ?_, .c _⟩
    rw [f.sz, Array.getElem?_toList] at h2
    exact h2
   ·cases h2
theorem hand_ok {id : FuncId} {fn : Func} (hfn : P.funcs[id]? = some fn) (hn : (fn.name == "runtime.NumGoroutine") = false) (hb : fn.body.isNone = false) (F : EvForm T.Γ) (hl : F.lent = [])
  (h : ∀ k ats r, F.f k ats = some r → ∀ (E : Env) (A : Nat → Prop) (w : World) (vals : List Value), ConcAs T E (SB T w (Own (T := T) E []) A E [] w) w (fillAs ats 0 F.args) vals → GlobOk T E [] w →
   Calls P id vals.toArray w fun e w' => ∃ x E', e = .returned x ∧ Below w.heap.size w w' ∧ ConcA T E' (SB T w (Own (T := T) E []) A E' (fillM (F.lets r) (cntA F.res) F.left) w') w' (fillA (F.lets r) 0 F.res) x ∧
    MemOk T E' (SB T w (Own (T := T) E []) A E' (fillM (F.lets r) (cntA F.res) F.left) w') w' (fillM (F.lets r) (cntA F.res) F.left) ∧ ∀ g, Own E' (fillM (F.lets r) (cntA F.res) F.left) g → w.heap.size ≤ g) (hT : TabOk T P) : CallOk T P id F.fn := by
 refine ⟨fun k xs m ω K => ?_, enters_fn hfn hn hb, fun k xs m m' v hsp E A w vals ha hm hg => ?_⟩
 ·show F.spec k xs m ω K = (F.spec k xs m (AV T.Γ × Mem T.Γ) fun v m => some (v, m)).bind fun p => K p.1 p.2
  unfold EvForm.spec
  cases likeAs F.args xs && likeM F.lent m with
  | false => rfl
  | true =>
   simp only
   cases F.f k (atAs F.args xs ++ atM F.lent m) with
   | none => rfl
   | some r => rfl
 ·have hsp : F.spec k xs m (AV T.Γ × Mem T.Γ) (fun v m => some (v, m)) = some (v, m') := hsp
  unfold EvForm.spec at hsp
  split at hsp
  case h_2 => cases hsp
  rename_i hlike
  simp only [Bool.and_eq_true] at hlike
  cases hfr : F.f k (atAs F.args xs ++ atM F.lent m) with
  | none => rw [hfr] at hsp; cases hsp
  | some r =>
   rw [hfr] at hsp
   simp only [Option.bind_some, Option.some.injEq, Prod.mk.injEq] at hsp
   obtain ⟨rfl, rfl⟩ := hsp
   have hm0 : m = [] := by
    have := likeM_length hlike.2
    rw [hl] at this
    exact List.eq_nil_of_length_eq_zero this.symm
   subst hm0
   obtain ⟨a1, a2⟩ := likeAs_at (E := E) (w := w) (N := fun g => w.heap.size ≤ g ∨ Own (T := T) E [] g) (F := A) (m := []) hT hlike.1
   have hsub : Sub (atAs F.args xs ++ atM F.lent []) 0 (atAs F.args xs ++ atM F.lent []) := Sub.self _
   refine (h k _ r hfr E A w vals (a2 _ 0 hsub.left vals ha) hg).mono fun e w' ⟨x, E', he, hbel, hv, hmm, hown⟩ => ⟨x, E', he, ⟨hbel.os, hbel.tape, hbel.output, hbel.size, fun k hk _ => hbel.block k hk⟩, fun i hi => absurd hi (Nat.not_lt_zero i), hv, hmm, fun g hg => .inl (hown g hg)⟩
theorem memOk_nil {E : Env} : MemOk T E B w [] := ⟨fun s b h => (by cases h), fun s s' g h _ => absurd ⟨s, h⟩ own_none⟩
theorem concL_nil : ConcL T E B w [] [] := ⟨rfl, fun j cv v h => by simp at h⟩
theorem concL_cons {x : CV T.Γ} {v : Value} {l : List (CV T.Γ)} {vs : List Value} (h : Conc T E B w x v) (t : ConcL T E B w l vs) : ConcL T E B w (x :: l) (v :: vs) := by
 refine ⟨by simp [t.1], fun j cv u hj hu => ?_⟩
 cases j with
 | zero => simp only [List.getElem?_cons_zero, Option.some.injEq] at hj hu; subst hj; subst hu; exact h
 | succ j => exact t.2 j cv u (by simpa using hj) (by simpa using hu)
theorem concL_uncons {x : CV T.Γ} {l : List (CV T.Γ)} {vs : List Value} (h : ConcL T E B w (x :: l) vs) : ∃ v r, vs = v :: r ∧ Conc T E B w x v ∧ ConcL T E B w l r := by
 cases vs with
 | nil => have := h.1; simp at this
 | cons v r => exact ⟨v, r, rfl, h.2 0 x v rfl rfl, by have := h.1; simpa using this, fun j cv u hj hu => h.2 (j + 1) cv u (by simpa using hj) (by simpa using hu)⟩
theorem concL_unnil {vs : List Value} (h : ConcL T E B w [] vs) : vs = [] := List.eq_nil_of_length_eq_zero h.1
theorem conc_c {u v : Value} (h : Conc T E B w (.c u) v) : v = u := by cases h; rfl
theorem concA_cell {x : CV T.Γ} {v : Value} (h : ConcA T E B w (.t (.cell x)) v) : Conc T E B w x v := by
 cases h with | t h => cases h with | cell h => exact h
theorem concA_agg {l : List (CV T.Γ)} {v : Value} (h : ConcA T E B w (.t (.agg l)) v) : ∃ vs, v = .agg vs.toArray ∧ ConcL T E B w l vs := by
 cases h with | t h => cases h with | agg h => rename_i vs; exact ⟨vs.toList, by simp, h⟩
theorem concAs_uncons {x : AV T.Γ} {l : List (AV T.Γ)} {vs : List Value} (h : ConcAs T E B w (x :: l) vs) : ∃ v r, vs = v :: r ∧ ConcA T E B w x v ∧ ConcAs T E B w l r := by
 cases h with | cons h t => exact ⟨_, _, rfl, h, t⟩
theorem concAs_unnil {vs : List Value} (h : ConcAs T E B w [] vs) : vs = [] := by cases h; rfl
def rowEnv (v : Value) : Env := ⟨fun _ => v.ownBlock, fun _ => v, fun _ g => v.ownBlock = some g, 0⟩
theorem Flat.row_mem (hT : TabOk T P) {e : TypeId} {d : Kd (T.Γ.el e).ty} (f : Flat T e d) {xs : List (T.Γ.el e).ty} {base : Nat} {ok : Nat → Prop} {v : Value} (h : d.R e w base ok v xs) :
  MemOk T (rowEnv v) B w [(0, .row false e xs)] ∧ ∀ g, Own (T := T) (rowEnv v) [(0, .row false e xs)] g → base ≤ g := by
 obtain ⟨h1, h2⟩ := f.row_of (B := B) hT (E := rowEnv v) (s := 0) h rfl rfl (fun _ => Iff.rfl)
 have only : ∀ s b, Mem.get [(0, (.row false e xs : Blk T.Γ))] s = some b → s = 0 ∧ b = .row false e xs := fun s b hb => by
  simp only [Mem.get] at hb
  split at hb
  ·rename_i hs; exact ⟨(beq_iff_eq.mp hs).symm, (Option.some.inj hb).symm⟩
  ·cases hb
 refine ⟨⟨fun s b hb => ?_, fun s s' g ho ho' => ?_⟩, fun g ho => ?_⟩
 ·obtain ⟨rfl, rfl⟩ := only s b hb
  exact h1
 ·obtain ⟨b, hb, _⟩ := ho
  obtain ⟨b', hb', _⟩ := ho'
  exact (only s b hb).1.trans (only s' b' hb').1.symm
 ·obtain ⟨s, b, hb, _, hφ⟩ := ho
  exact h2 g hφ
theorem V_block {α : Type} {d : Kd α} {e base : Nat} {ok : Nat → Prop} {a : Addr} {n c : Nat} {xs : List α} (h : Kd.V d e w base ok (.slice (some a) n c) xs) (hx : xs ≠ []) (hd : 0 < d.sz) : ok a.block := by
 obtain ⟨hn, _, hf⟩ := Kd.V_at h
 refine Classical.byContradiction fun hno => ?_
 have hpos : 0 < xs.length := List.length_pos_iff.mpr hx
 have hbad : d.C { w with heap := w.heap.setIfInBounds a.block (.map #[] 0) } (some a) xs.length xs := hf _ (fun k hok hk => by
  have : a.block ≠ k := fun e => hno (e ▸ hok)
  simp [Array.getElem?_setIfInBounds_ne this])
 obtain ⟨_, _, hcell⟩ := hbad
 obtain ⟨ad, had, hc⟩ := hcell hpos
 cases had
 obtain ⟨cs, h1, h2, h3⟩ := hc 0 _ (List.getElem?_eq_getElem hpos)
 have := h3 0 _ (List.getElem?_eq_getElem (by omega))
 rw [Nat.zero_mul, Nat.zero_add, show (a.add 0) = a from rfl] at this
 simp only [World.cell?] at this
 by_cases hlt : a.block < w.heap.size
 ·simp [hlt] at this
 ·rw [Array.getElem?_eq_none (by simp; omega)] at this
  cases this
theorem Flat.V_in (hT : TabOk T P) {e : TypeId} {d : Kd (T.Γ.el e).ty} (f : Flat T e d) {p : Pv} {xs : List (T.Γ.el e).ty} {v : Value} {base : Nat} {ok : Nat → Prop} (h : Conc T E B w (.sl p e xs) v) (hb : xs.length ≤ 9223372036854775807) (hok : ∀ g, B p g → ok g) : Kd.V d e w base ok v xs := by
 obtain ⟨A, c, rfl, hc, hC, hB⟩ := f.C_of hT h hb
 refine ⟨A, c, rfl, hc, fun W2 hag => ?_⟩
 obtain ⟨h1, h2, h3⟩ := hC
 refine ⟨h1, h2, fun hpos => ?_⟩
 obtain ⟨ad, rfl, hcells⟩ := h3 hpos
 refine ⟨ad, rfl, fun j x hj => ?_⟩
 obtain ⟨cs, c1, c2, c3⟩ := hcells j x hj
 refine ⟨cs, c1, (f.K _ _ _).mpr ((f.K _ _ _).mp c2), fun i u hi => ?_⟩
 have hg : ok ad.block := hok _ (hB _ rfl (List.length_pos_iff.mp hpos))
 have hcell := c3 i u hi
 have hblk : (ad.add (j * d.sz + i)).block = ad.block := by unfold Addr.add; split <;> rfl
 have hlt : ad.block < w.heap.size := by rw [← hblk]; exact World.block_lt_of_cell? w _ hcell
 simp only [World.cell?] at hcell ⊢
 rw [hblk] at hcell ⊢
 rw [hag _ hg hlt]
 exact hcell
theorem Flat.conc_V (hT : TabOk T P) {e : TypeId} {d : Kd (T.Γ.el e).ty} (f : Flat T e d) {xs : List (T.Γ.el e).ty} {v : Value} {base : Nat} {ok : Nat → Prop} (h : Kd.V d e w base ok v xs) (hB : ∀ g, g < w.heap.size → ok g → B .far g) : Conc T E B w (.sl .far e xs) v := by
 obtain ⟨A, c, rfl⟩ := Kd.V_slice h
 obtain ⟨hn, hc, hC⟩ := Kd.V_reads' h
 exact conc_of_C' hT d f.sz hC hc f.n (f.K1 hT) (fun a ha hx hlt => by subst ha; exact hB _ hlt (V_block h hx (by rw [f.sz]; exact f.n)))
abbrev AnyV (T : Tab) (A : Nat → Prop) (w : World) : Pv → Nat → Prop := SB T w (Own (T := T) E00 []) A E00 [] w
theorem anyV_far {A : Nat → Prop} {g : Nat} (h : g < w.heap.size) (ha : A g) : AnyV T A w .far g := ⟨h, own_none, .inr ha⟩
theorem ok_callsV {A : Nat → Prop} {id : FuncId} {F : EvForm T.Γ} (hok : CallOk T P id F.fn) {k : Nat} {ats : List (Atom T.Γ)} {r : F.R} (hf : F.f k ats = some r) {xs : List (AV T.Γ)} (h1 : (likeAs F.args xs && likeM F.lent []) = true) (h2 : atAs F.args xs ++ atM F.lent [] = ats)
  {vals : Array Value} (hv : ConcAs T E00 (AnyV T A w) w xs vals.toList) (hg : GlobOk T E00 [] w) :
  Calls P id vals w fun e w' => ∃ x E', e = .returned x ∧ Left T (Own (T := T) E00 []) A 0 E00 w (fillA (F.lets r) 0 F.res) (fillM (F.lets r) (cntA F.res) F.left) E' x w' := by
 have := hok.calls k xs [] (fillM (F.lets r) (cntA F.res) F.left) (fillA (F.lets r) 0 F.res) (by
  show F.spec k xs [] _ (fun v m => some (v, m)) = _
  unfold EvForm.spec
  rw [h1]
  simp only
  rw [h2, hf]
  rfl) E00 A w vals.toList hv ⟨fun s b h => (by cases h), fun s s' g h _ => absurd ⟨s, h⟩ own_none⟩ hg
 simpa using this
theorem left_belowV {A : Nat → Prop} {v : AV T.Γ} {m : Mem T.Γ} {E' : Env} {x : Value} (h : Left T (Own (T := T) E00 []) A 0 E00 w v m E' x w') : Below w.heap.size w w' :=
 ⟨h.kept.os, h.kept.tape, h.kept.output, h.kept.size, fun k hk => h.kept.block k hk own_none⟩
theorem conc_own {s : Nat} {v : Value} (h : Conc T E B w (.own s) v) : v = E.σ s := by cases h; rfl
def ConcTs (T : Tab) (E : Env) (B : Pv → Nat → Prop) (w : World) (l : List (TV T.Γ)) (vs : List Value) : Prop := vs.length = l.length ∧ ∀ (j : Nat) x v, l[j]? = some x → vs[j]? = some v → ConcT T E B w x v
theorem concA_tup {l : List (TV T.Γ)} {v : Value} (h : ConcA T E B w (.tup l) v) : ∃ vs, v = .tuple vs.toArray ∧ ConcTs T E B w l vs := by
 cases h with
 | tup hl h => rename_i vs; exact ⟨vs.toList, by simp, by simpa using hl, fun j x v h1 h2 => h j x v h1 (by simpa using h2)⟩
theorem concTs_uncons {x : TV T.Γ} {l : List (TV T.Γ)} {vs : List Value} (h : ConcTs T E B w (x :: l) vs) : ∃ v r, vs = v :: r ∧ ConcT T E B w x v ∧ ConcTs T E B w l r := by
 cases vs with
 | nil => have := h.1; simp at this
 | cons v r => exact ⟨v, r, rfl, h.2 0 x v rfl rfl, by have := h.1; simpa using this, fun j cv u hj hu => h.2 (j + 1) cv u (by simpa using hj) (by simpa using hu)⟩
theorem concTs_unnil {vs : List Value} (h : ConcTs T E B w [] vs) : vs = [] := List.eq_nil_of_length_eq_zero h.1
theorem concT_cell {x : CV T.Γ} {v : Value} (h : ConcT T E B w (.cell x) v) : Conc T E B w x v := by cases h with | cell h => exact h
theorem concT_value {x : TV T.Γ} {u v : Value} (h : ConcT T E B w x v) (hu : toTV x = some u) : v = u := toTV_conc x u v hu h
theorem concTs_nil : ConcTs T E B w [] [] := ⟨rfl, fun j x v h => by simp at h⟩
theorem concTs_cons {x : TV T.Γ} {v : Value} {l : List (TV T.Γ)} {vs : List Value} (h : ConcT T E B w x v) (t : ConcTs T E B w l vs) : ConcTs T E B w (x :: l) (v :: vs) := by
 refine ⟨by simp [t.1], fun j cv u hj hu => ?_⟩
 cases j with
 | zero => simp only [List.getElem?_cons_zero, Option.some.injEq] at hj hu; subst hj; subst hu; exact h
 | succ j => exact t.2 j cv u (by simpa using hj) (by simpa using hu)
theorem concA_of_tup {l : List (TV T.Γ)} {vs : List Value} (h : ConcTs T E B w l vs) : ConcA T E B w (.tup l) (.tuple vs.toArray) :=
 .tup (by simpa using h.1) (fun j x v h1 h2 => h.2 j x v h1 (by simpa using h2))
end
end Go.Proofs.YtbbpcbjgekencaaGreatDoor.Ev
end
section
set_option linter.unusedVariables false
set_option linter.unusedSimpArgs false
set_option linter.unusedVariables false
namespace Go.Proofs.YtbbpcbjgekencaaGreatDoor.Ev
open Go Go.RowKit Go.Proofs.YtbbpcbjgekencaaGreatDoor.Q Go.Proofs.YtbbpcbjgekencaaGreatDoorW.PrintWords
variable {g : List (Nat × Nat × Value)}
def fl32 (g : List (Nat × Nat × Value)) : Flat (Tg g) 32 (Kd.int .u16) := ⟨fun (x : Int) => [.int .u16 x], fun _ => rfl, of_decide_eq_true (by kernel_rfl), by kernel_rfl, fun w x cs => Iff.rfl, fun w base ok x cs => Iff.rfl⟩
theorem k1_32 {E : Env} {B : Pv → Nat → Prop} {w : World} (_ : ∀ q, q < w.heap.size → B .far q) (x : Int) (cs : List Value) (h : Kd.K (Kd.int .u16) w x cs) : ConcL (Tg g) E B w (cellsQ (Tg g) .far 32 x) cs := (fl32 g).K1 (tab_ok g) x cs h
def fl33 (g : List (Nat × Nat × Value)) : Flat (Tg g) 33 (Kd.int .u64) := ⟨fun (x : Int) => [.int .u64 x], fun _ => rfl, of_decide_eq_true (by kernel_rfl), by kernel_rfl, fun w x cs => Iff.rfl, fun w base ok x cs => Iff.rfl⟩
theorem k1_33 {E : Env} {B : Pv → Nat → Prop} {w : World} (_ : ∀ q, q < w.heap.size → B .far q) (x : Int) (cs : List Value) (h : Kd.K (Kd.int .u64) w x cs) : ConcL (Tg g) E B w (cellsQ (Tg g) .far 33 x) cs := (fl33 g).K1 (tab_ok g) x cs h
def fl35 (g : List (Nat × Nat × Value)) : Flat (Tg g) 35 k35 := ⟨fun (x : S35) => [.int .u16 x.f0, .int .u64 x.f1], fun _ => rfl, of_decide_eq_true (by kernel_rfl), by kernel_rfl, fun w x cs => ⟨fun h => k35_open h, fun h => by subst h; exact k35_mk _ _⟩, fun w base ok x cs => ⟨fun h => k35_openM h, fun h => by subst h; exact k35_mkM _ _ _ _⟩⟩
theorem k1_35 {E : Env} {B : Pv → Nat → Prop} {w : World} (_ : ∀ q, q < w.heap.size → B .far q) (x : S35) (cs : List Value) (h : Kd.K k35 w x cs) : ConcL (Tg g) E B w (cellsQ (Tg g) .far 35 x) cs := (fl35 g).K1 (tab_ok g) x cs h
def fl61 (g : List (Nat × Nat × Value)) : Flat (Tg g) 61 k61 := ⟨fun (x : S61) => [.int .i64 x.f0, .int .i64 x.f1, .int .i64 x.f2], fun _ => rfl, of_decide_eq_true (by kernel_rfl), by kernel_rfl, fun w x cs => ⟨fun h => k61_open h, fun h => by subst h; exact k61_mk _ _⟩, fun w base ok x cs => ⟨fun h => k61_openM h, fun h => by subst h; exact k61_mkM _ _ _ _⟩⟩
def fl114 (g : List (Nat × Nat × Value)) : Flat (Tg g) 114 k114 := ⟨fun (x : S114) => [.int .i64 x.f0, .int .i64 x.f1, .int .i64 x.f2, .int .i64 x.f3, .int .u64 x.f4], fun _ => rfl, of_decide_eq_true (by kernel_rfl), by kernel_rfl, fun w x cs => ⟨fun h => k114_open h, fun h => by subst h; exact k114_mk _ _⟩, fun w base ok x cs => ⟨fun h => k114_openM h, fun h => by subst h; exact k114_mkM _ _ _ _⟩⟩
def fl135 (g : List (Nat × Nat × Value)) : Flat (Tg g) 135 k135 := ⟨fun (x : S135) => [.int .i64 x.f0, .int .i64 x.f1, .int .u64 x.f2], fun _ => rfl, of_decide_eq_true (by kernel_rfl), by kernel_rfl, fun w x cs => ⟨fun h => k135_open h, fun h => by subst h; exact k135_mk _ _⟩, fun w base ok x cs => ⟨fun h => k135_openM h, fun h => by subst h; exact k135_mkM _ _ _ _⟩⟩
theorem k1_135 {E : Env} {B : Pv → Nat → Prop} {w : World} (_ : ∀ q, q < w.heap.size → B .far q) (x : S135) (cs : List Value) (h : Kd.K k135 w x cs) : ConcL (Tg g) E B w (cellsQ (Tg g) .far 135 x) cs := (fl135 g).K1 (tab_ok g) x cs h
theorem k1_96 {E : Env} {B : Pv → Nat → Prop} {w : World} (hB : ∀ q, q < w.heap.size → B .far q) (x : S96) (cs : List Value) (h : Kd.K k96 w x cs) : ConcL (Tg g) E B w (cellsQ (Tg g) .far 96 x) cs := by
 obtain ⟨A1, c1, rfl, l1, g1⟩ := k96_open h
 show ConcL (Tg g) E B w [.c (.int .i64 x.f0), .sl .far 33 x.f1] _
 exact (concL_cons (.c _) (concL_cons (conc_of_C (tab_ok g) (e := 33) (Kd.int .u64) rfl g1 l1 (of_decide_eq_true (by kernel_rfl)) (k1_33 hB) hB) concL_nil))
theorem k1_94 {E : Env} {B : Pv → Nat → Prop} {w : World} (hB : ∀ q, q < w.heap.size → B .far q) (x : S94) (cs : List Value) (h : Kd.K k94 w x cs) : ConcL (Tg g) E B w (cellsQ (Tg g) .far 94 x) cs := by
 obtain ⟨A3, c3, A4, c4, rfl, l3, g3, l4, g4⟩ := k94_open h
 show ConcL (Tg g) E B w [.c (.int .u8 x.f0), .c (.int .u8 x.f1), .c (.int .u64 x.f2), .sl .far 96 x.f3, .sl .far 135 x.f4] _
 exact (concL_cons (.c _) (concL_cons (.c _) (concL_cons (.c _) (concL_cons (conc_of_C (tab_ok g) (e := 96) k96 rfl g3 l3 (of_decide_eq_true (by kernel_rfl)) (k1_96 hB) hB) (concL_cons (conc_of_C (tab_ok g) (e := 135) k135 rfl g4 l4 (of_decide_eq_true (by kernel_rfl)) (k1_135 hB) hB) concL_nil)))))
end Go.Proofs.YtbbpcbjgekencaaGreatDoor.Ev
end
