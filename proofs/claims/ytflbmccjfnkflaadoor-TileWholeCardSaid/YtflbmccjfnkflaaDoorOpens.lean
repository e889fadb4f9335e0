/- What an argument reads as is a value of a kind: slices, structs, structs in slices, however deep; for the rows of laws. -/
import Derived.Test.YtflbmccjfnkflaaDoorWords
import Derived.Deep.Slices
import Derived.Deep.Fields
import Derived.ChangeSame
import Derived.WideShapes
import Derived.SizedLaws
namespace Go.Proofs.YtflbmccjfnkflaaDoor.Opens
open Go.RowKit Go.ChangeShapes Go.WideShapes Go.Deep Go.Proofs.YtflbmccjfnkflaaDoorW.PrintWords

/-- Whatever the reader takes at type t is a value of kind d, of which wf holds. -/
def Opens (P : Program) (t : TypeId) {α : Type} (d : Kd α) (wf : α → Prop) : Prop :=
  ∀ {H : Type} (enc : TypeId × Value → H) (w : World) (base : Nat) (spare : Nat → Bool) (held : Bool) (fuel : Nat) (cs : List Value) (x : DataW H × List MemPlace),
    DataW.trod enc P w base spare held fuel t cs = some x → ∃ a : α, d.K w a cs ∧ wf a

theorem opens_int {P : Program} {t : TypeId} {k : IntKind} (ht : P.underlying t = some (.int k)) : Opens P t (Kd.int k) (fun n => (Lit.int k n).wf = true) := by
  intro H enc w base spare held fuel cs x h
  obtain ⟨n, rfl, _, hw⟩ := DataW.trod_int ht h
  exact ⟨n, rfl, hw⟩
theorem opens_bool {P : Program} {t : TypeId} (ht : P.underlying t = some .bool) : Opens P t Kd.bool (fun _ => True) := by
  intro H enc w base spare held fuel cs x h
  obtain ⟨b, rfl, _⟩ := DataW.trod_bool ht h
  exact ⟨b, rfl, trivial⟩
theorem opens_string {P : Program} {t : TypeId} (ht : P.underlying t = some .string) : Opens P t Kd.string (fun s => s.size ≤ maxLen) := by
  intro H enc w base spare held fuel cs x h
  obtain ⟨s, rfl, _, hw⟩ := DataW.trod_string ht h
  exact ⟨s, rfl, hw⟩

theorem list_of_range {α : Type} (p : Nat → α → Prop) : ∀ n, (∀ i, i < n → ∃ a, p i a) → ∃ xs : List α, xs.length = n ∧ ∀ i a, xs[i]? = some a → p i a
  | 0, _ => ⟨[], rfl, fun i a h => by simp at h⟩
  | n + 1, h => by
    obtain ⟨xs, hl, hx⟩ := list_of_range p n (fun i hi => h i (by omega))
    obtain ⟨a, ha⟩ := h n (by omega)
    refine ⟨xs ++ [a], by simp [hl], fun i b hb => ?_⟩
    rcases Nat.lt_or_ge i xs.length with hi | hi
    · rw [List.getElem?_append_left hi] at hb; exact hx i b hb
    · rw [List.getElem?_append_right hi] at hb
      have : i = n := by
        have := (List.getElem?_eq_some_iff.1 hb).1
        simp at this; omega
      subst this
      rw [hl, Nat.sub_self] at hb
      injection hb with hb
      subst hb
      exact ha

theorem opens_slice {P : Program} {t e : TypeId} {α : Type} {d : Kd α} {wf : α → Prop} (ht : P.underlying t = some (.slice e)) (he : Opens P e d wf) (hsz : P.cellsOf e = d.sz) :
    Opens P t (Kd.slice e d) (fun xs => xs.length ≤ maxLen ∧ ∀ x ∈ xs, wf x) := by
  intro H enc w base spare held fuel cs x h
  rcases open_slice ht h with ⟨rfl, _⟩ | ⟨a, len, cap, m, n, D, Pl, rfl, _, hl, hm, hmm, _, hi⟩
  · exact ⟨[], ⟨none, 0, rfl, Nat.le_refl _, rfl, Nat.zero_le _, fun h => absurd h (Nat.lt_irrefl 0)⟩, Nat.zero_le _, fun x hx => absurd hx List.not_mem_nil⟩
  · have hlm : len ≤ m := by rw [hmm]; split <;> omega
    obtain ⟨xs, hxl, hx⟩ := list_of_range (fun i (b : α) => ∃ c, c.length = d.sz ∧ d.K w b c ∧ (∀ j u, c[j]? = some u → w.cell? (a.add (i * d.sz + j)) = some u) ∧ wf b) len (fun i hil => by
      obtain ⟨cs', hc, ht'⟩ := hi i (by omega)
      obtain ⟨b, hK, hw⟩ := he enc w base spare held n cs' _ ht'
      obtain ⟨_, hcl, hat⟩ := World.cells?_some hc
      refine ⟨b, cs', d.K_len hK, hK, fun j u hu => ?_, hw⟩
      have hj := (List.getElem?_eq_some_iff.1 hu).1
      have := hat j (by omega)
      rw [← hsz, ← Go.Deep.add_add, this]
      exact hu)
    refine ⟨xs, ⟨some a, cap, by rw [hxl], by omega, rfl, by unfold maxLen at hm; omega, fun _ => ⟨a, rfl, fun j p hj => ?_⟩⟩, by omega, fun b hb => ?_⟩
    · obtain ⟨c, h1, h2, h3, _⟩ := hx j p hj
      exact ⟨c, h1, h2, h3⟩
    · obtain ⟨i, hi', e⟩ := List.mem_iff_getElem.1 hb
      obtain ⟨_, _, _, _, hw⟩ := hx i b (by rw [List.getElem?_eq_getElem hi', e])
      exact hw

/-- The fields of a struct, from a place on. -/
def OpensF (P : Program) : List Field → Nat → {α : Type} → Kd α → (α → Prop) → Prop := fun fs off α d wf =>
  ∀ {H : Type} (enc : TypeId × Value → H) (w : World) (base : Nat) (spare : Nat → Bool) (held : Bool) (n : Nat) (cs : List Value),
    cs.length = d.sz → (∀ (i : Nat) (f : Field), fs[i]? = some f → ∃ y, DataW.trod enc P w base spare held n f.type ((cs.drop (f.offset - off)).take (P.cellsOf f.type)) = some y) → ∃ a : α, d.K w a cs ∧ wf a

theorem opensF_last {P : Program} {f : Field} {off : Nat} {α : Type} {d : Kd α} {wf : α → Prop} (hf : Opens P f.type d wf) (ho : f.offset = off) (hsz : P.cellsOf f.type = d.sz) : OpensF P [f] off d wf := by
  intro H enc w base spare held n cs hl h
  obtain ⟨y, hy⟩ := h 0 f rfl
  rw [ho, Nat.sub_self, List.drop_zero, hsz, ← hl, List.take_length] at hy
  exact hf enc w base spare held n cs y hy
theorem opensF_cons {P : Program} {f : Field} {fs : List Field} {off : Nat} {α β : Type} {d : Kd α} {d' : Kd β} {wf : α → Prop} {wf' : β → Prop} (hf : Opens P f.type d wf) (ho : f.offset = off) (hsz : P.cellsOf f.type = d.sz)
    (hr : OpensF P fs (off + d.sz) d' wf') (hge0 : (fs.all fun g => decide (off + d.sz ≤ g.offset)) = true) : OpensF P (f :: fs) off (Kd.pair d d') (fun p => wf p.1 ∧ wf' p.2) := by
  have hge : ∀ g ∈ fs, off + d.sz ≤ g.offset := fun g hg => of_decide_eq_true (List.all_eq_true.1 hge0 g hg)
  intro H enc w base spare held n cs hl h
  have hl' : cs.length = d.sz + d'.sz := hl
  obtain ⟨y, hy⟩ := h 0 f rfl
  rw [ho, Nat.sub_self, List.drop_zero, hsz] at hy
  obtain ⟨a, ha, hwa⟩ := hf enc w base spare held n _ y hy
  obtain ⟨b, hb, hwb⟩ := hr enc w base spare held n (cs.drop d.sz) (by rw [List.length_drop]; omega) (fun i g hg => by
    obtain ⟨z, hz⟩ := h (i + 1) g (by simpa using hg)
    refine ⟨z, ?_⟩
    have hgm := hge g (List.mem_of_getElem? hg)
    rw [List.drop_drop, show d.sz + (g.offset - (off + d.sz)) = g.offset - off by omega]
    exact hz)
  exact ⟨(a, b), ⟨cs.take d.sz, cs.drop d.sz, (List.take_append_drop _ _).symm, ha, hb⟩, hwa, hwb⟩
theorem opens_struct {P : Program} {t : TypeId} {fs : List Field} {α β : Type} {d : Kd β} {wf : β → Prop} (f : α → β) (g : β → α) (hfg : ∀ b, f (g b) = b) (ht : P.underlying t = some (.struct fs.toArray)) (hs : P.cellsOf t = d.sz) (h : OpensF P fs 0 d wf) :
    Opens P t (Kd.iso d f) (fun x => wf (f x)) := by
  intro H enc w base spare held fuel cs x hx
  obtain ⟨xs, n, _, _, hl, hxl, hf⟩ := DataW.trod_struct ht hx
  obtain ⟨b, hb, hw⟩ := h enc w base spare held n cs (by omega) (fun i q hq => by
    have h1 := hf i q (by simpa using hq)
    have hlt : i < xs.length := by
      rw [hxl]
      have := (List.getElem?_eq_some_iff.1 hq).1
      simpa using this
    rw [List.getElem?_eq_getElem hlt] at h1
    rw [Nat.sub_zero]
    exact ⟨_, h1⟩)
  refine ⟨g b, ?_, ?_⟩
  · show d.K w (f (g b)) cs
    rw [hfg]; exact hb
  · show wf (f (g b))
    rw [hfg]; exact hw
/-- A slice that the reader takes is no longer than its weight allows. -/
theorem sized_any {H : Type} {enc : TypeId × Value → H} {P : Program} {W : World} {base : Nat} {spare : Nat → Bool} {held : Bool} {t e : TypeId} {a : Option Addr} {len cap : Nat} {d : DataW H} {ps : List MemPlace} {ts : List TypeId} {ds : List (DataW H)} {j : Nat}
    (hsz : (DataW.weightsEach P ts ds).all (· ≤ reachBytes) = true) (ht : ts[j]? = some t) (hd : ds[j]? = some d) (hu : P.underlying t = some (.slice e)) {B : Nat} (hB : P.bytesOf e = B)
    (h : DataW.Trod enc P W base spare held t (.slice a len cap) d ps) : len * B ≤ 140737488351232 := by
  obtain ⟨fuel, hf⟩ := h
  rcases open_slice hu hf with ⟨hcs, _⟩ | ⟨x, l, c, m, n, D, Pl, hcs, _, hl, _, _, hx, _⟩
  · simp [Value.cells] at hcs
    obtain ⟨rfl, rfl, rfl⟩ := hcs
    simp
  · simp [Value.cells] at hcs
    obtain ⟨rfl, rfl, rfl⟩ := hcs
    obtain ⟨hx, _⟩ := Prod.mk.inj hx
    subst hx
    have z := sized_slice hsz ht hd hu
    rw [hB] at z
    refine Nat.le_trans (Nat.mul_le_mul_right _ ?_) z
    simp
end Go.Proofs.YtflbmccjfnkflaaDoor.Opens
