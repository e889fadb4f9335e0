import Derived.Test.YtccnoemcpmdeaaaQx15
import Derived.Test.YtccnoemcpmdeaaaQx14
import Derived.Test.YtccnoemcpmdeaaaStPieceBack
import Derived.Test.YtccnoemcpmdeaaaPieceLib
import Derived.Test.YtccnoemcpmdeaaaPieceAwake
set_option linter.unusedVariables false
set_option linter.unusedSimpArgs false
namespace Go.Proofs.Ytccnoemcpmdeaaa.Pure
open Go.RowKit Go.Proofs.Ytccnoemcpmdeaaa.Q Go.Proofs.YtccnoemcpmdeaaaW.PrintWords Go.Proofs.YtccnoemcpmdeaaaW.PrintLast

theorem gather_ev2 (image : List Int) (l : List S24) (hf : plFits l) : Ev (fun _ => piece_Gather.f image l) (gatherVal image l) := by
  unfold piece_Gather.f; rw [if_pos hf]; exact ev_some _
theorem scatter_ev2 (image : List Int) (l : List S24) (words : List Int) (hf : plFits l) (hi : image.length < 17592186044416) : Ev (fun _ => piece_Scatter.f image l words) (scatterVal image l words) := by
  unfold piece_Scatter.f; rw [if_pos hi, if_pos hf]; exact ev_some _

/-! scattered words -/
theorem scat_out (words : List Int) (q : Nat) : ∀ (pre : List (Nat × Nat)) (image : List Int), (∀ x ∈ pre, x.2 ≠ q) → (scatterPre words image pre)[q]? = image[q]? := by
  intro pre
  induction pre with
  | nil => intro image _; rfl
  | cons x r ih =>
    intro image h
    have h1 := h x (by simp)
    have : scatterPre words image (x :: r) = scatterPre words (scatterStep words image x) r := rfl
    rw [this, ih _ (fun y hy => h y (by simp [hy]))]
    unfold scatterStep
    split
    · rw [List.getElem?_set_ne h1]
    · rfl
theorem scat_in (words : List Int) : ∀ (pre : List (Nat × Nat)) (image : List Int) (x : Nat × Nat), (pre.map (·.2)).Nodup → x ∈ pre → x.2 < image.length → (scatterPre words image pre)[x.2]? = some (words.getD x.1 0) := by
  intro pre
  induction pre with
  | nil => intro image x _ h _; simp at h
  | cons y r ih =>
    intro image x hn hx hlt
    have e : scatterPre words image (y :: r) = scatterPre words (scatterStep words image y) r := rfl
    rw [List.map_cons, List.nodup_cons] at hn
    rw [e]
    rcases List.mem_cons.1 hx with rfl | hx
    · rw [scat_out words x.2 r _ (fun z hz ez => hn.1 (List.mem_map.2 ⟨z, hz, ez⟩))]
      unfold scatterStep
      rw [if_pos hlt, List.getElem?_set_self hlt]
    · exact ih _ x hn.2 hx (by rw [scatterStep_length]; exact hlt)

theorem plPairs_snd (l : List S24) : (plPairs l).map (·.2) = plAll l := by
  apply List.ext_getElem
  · simp [plPairs]
  · intro i h1 h2; simp [plPairs]
theorem plPairs_mem (l : List S24) (j : Nat) (h : j < (plAll l).length) : (j, (plAll l)[j]) ∈ plPairs l := by
  have h1 := plPairs_at l j
  rw [List.getElem?_eq_getElem h] at h1
  exact List.mem_of_getElem? h1
theorem val_in (image words : List Int) (l : List S24) (hn : (plAll l).Nodup) (hw : (plAll l).length ≤ words.length) (j : Nat) (h : j < (plAll l).length) (hi : (plAll l)[j] < image.length) :
    (scatterVal image l words)[(plAll l)[j]]? = some (words.getD j 0) := by
  unfold scatterVal
  rw [List.take_of_length_le (by rw [plPairs_length]; exact hw)]
  exact scat_in words (plPairs l) image (j, (plAll l)[j]) (by rw [plPairs_snd]; exact hn) (plPairs_mem l j h) hi
theorem val_out (image words : List Int) (l : List S24) (q : Nat) (h : q ∉ plAll l) : (scatterVal image l words)[q]? = image[q]? := by
  unfold scatterVal
  refine scat_out words q _ image (fun x hx e => h ?_)
  have h1 : x.2 ∈ (plPairs l).map (·.2) := List.mem_map.2 ⟨x, List.mem_of_mem_take hx, rfl⟩
  rw [plPairs_snd] at h1
  rw [← e]; exact h1

/-! Has -/
theorem mem_plOne (s : S24) (q : Nat) (h0 : 0 ≤ s.f0) : q ∈ plOne s ↔ s.f0 ≤ q ∧ (q : Int) - s.f0 < s.f1 := by
  simp only [plOne, List.mem_map, List.mem_range]
  constructor
  · rintro ⟨k, hk, rfl⟩; omega
  · rintro ⟨h1, h2⟩; exact ⟨q - s.f0.toNat, by omega, by omega⟩
theorem has_l0 (l : List S24) (hf : plFits l) (q : Nat) (hq : q ≤ 1099511627776) : ∀ (d i : Nat), l.length - i = d → i ≤ l.length → Ev (fun k => lockfastref04_Has.l0 k l (q : Int) (i : Int)) (decide (q ∈ plAll (l.drop i))) := by
  intro d
  have hl := hf.2
  induction d with
  | zero =>
    intro i hd hi
    obtain rfl : i = l.length := by omega
    exact ev_next (f := fun _ => some false) (fun k => by simp only [lockfastref04_Has.l0]; rw [if_neg (by omega)]) (ev_eq (ev_some _) (by simp [plAll]))
  | succ d ih =>
    intro i hd hi
    have hlt : i < l.length := by omega
    obtain ⟨b0, b1, a1, a2⟩ := fitsAt hf i hlt
    have hm := mem_plOne l[i] q b0
    have hin : lockfastref04_In.f l[i].f0 l[i].f1 (q : Int) = some (decide (q ∈ plOne l[i])) := by
      unfold lockfastref04_In.f
      by_cases h1 : (q : Int) ≥ l[i].f0
      · rw [if_pos h1, w64 (by omega)]; congr 1; rw [decide_eq_decide, hm]; omega
      · rw [if_neg h1]; congr 1; rw [eq_comm, decide_eq_false_iff_not, hm]; omega
    refine ev_next (f := fun k => (lockfastref04_In.f l[i].f0 l[i].f1 (q : Int)).bind fun t => if t = true then some true else lockfastref04_Has.l0 k l (q : Int) ((i + 1 : Nat) : Int)) (fun k => ?_) ?_
    · simp only [lockfastref04_Has.l0]
      rw [if_pos (by omega), if_pos (by omega), rdS l i hlt, w64 (x := (i : Int) + 1) (by omega)]
      rfl
    · rw [hin]
      simp only [Option.bind_some]
      rw [plAll_drop l i hlt]
      by_cases h : q ∈ plOne l[i]
      · exact Ev.congr (f := fun _ => some true) (fun k => by rw [if_pos (decide_eq_true h)]) (ev_eq (ev_some _) (by simp [h]))
      · refine Ev.congr (f := fun k => lockfastref04_Has.l0 k l (q : Int) ((i + 1 : Nat) : Int)) (fun k => by rw [if_neg (by simp [h])]) (ev_eq (ih (i + 1) (by omega) (by omega)) (by simp [h]))
theorem has_ev (l : List S24) (hf : plFits l) (q : Nat) (hq : q ≤ 1099511627776) : Ev (fun k => lockfastref04_Has.f k l (q : Int)) (decide (q ∈ plAll l)) := by
  have h := has_l0 l hf q hq l.length 0 (by omega) (by omega)
  simpa [lockfastref04_Has.f] using h

/-! Made: pieces apart -/
def Apart (out : List S24) (fr : Int) : Prop := (∀ s ∈ out, 0 ≤ s.f0 ∧ s.f0 ≤ 1000 ∧ 0 ≤ s.f1 ∧ s.f1 ≤ 9) ∧ (plAll out).Nodup ∧ ∀ q ∈ plAll out, (q : Int) < fr
theorem made_l0 (x : List Int) (hx : ∀ n ∈ x, 0 ≤ n ∧ n ≤ 255) (hl : x.length ≤ 18) : ∀ (d i : Nat) (fr : Int) (out : List S24), x.length - i ≤ d → i ≤ x.length → 0 ≤ fr → fr ≤ 9 * (i : Int) → Apart out fr → out.length ≤ i →
    ∃ p, Ev (fun k => lockfastref04_Made.l0 k fr x out (i : Int)) p ∧ Apart p 180 ∧ p.length ≤ 18 := by
  intro d
  induction d with
  | zero =>
    intro i fr out hd hi h0 h1 ha ho
    refine ⟨out, ev_next (f := fun _ => some out) (fun k => ?_) (ev_some _), ⟨ha.1, ha.2.1, fun q hq => by have := ha.2.2 q hq; omega⟩, by omega⟩
    simp only [lockfastref04_Made.l0]; rw [w64 (by omega), if_neg (by omega)]
  | succ d ih =>
    intro i fr out hd hi h0 h1 ha ho
    by_cases hc : i + 1 < x.length
    · have h2 := hx x[i] (List.getElem_mem _)
      have h3 := hx x[i + 1] (List.getElem_mem _)
      have e2 : Int.tmod x[i] 9 = x[i] % 9 := Int.tmod_eq_emod_of_nonneg h2.1
      have e3 : Int.tmod x[i + 1] 9 = x[i + 1] % 9 := Int.tmod_eq_emod_of_nonneg h3.1
      obtain ⟨a, hA⟩ : ∃ a, x[i] % 9 = a := ⟨_, rfl⟩
      obtain ⟨b, hB⟩ : ∃ b, x[i + 1] % 9 = b := ⟨_, rfl⟩
      rw [hA] at e2
      rw [hB] at e3
      have hone : ∀ q, q ∈ plOne (⟨fr + 1 + a, 1 + b⟩ : S24) → fr < q ∧ (q : Int) < fr + 1 + a + (1 + b) := fun q hq => by
        have := (mem_plOne (⟨fr + 1 + a, 1 + b⟩ : S24) q (by simp only []; omega)).1 hq
        simp only [] at this; omega
      obtain ⟨p, hp, hap, hpl⟩ := ih (i + 2) (fr + 1 + a + (1 + b)) (out ++ [⟨fr + 1 + a, 1 + b⟩]) (by omega) (by omega) (by omega) (by omega) ⟨fun s hs => (List.mem_append.1 hs).elim (ha.1 s) (fun h => by simp at h; subst h; simp only []; omega), by
          rw [plAll_append, List.nodup_append]
          refine ⟨ha.2.1, ?_, fun q hq r hr e => ?_⟩
          · simp only [plAll, List.flatMap_cons, List.flatMap_nil, List.append_nil, plOne]
            exact List.pairwise_map.2 (List.Pairwise.imp (fun h e => h (by omega)) List.nodup_range)
          · simp only [plAll, List.flatMap_cons, List.flatMap_nil, List.append_nil] at hr
            have := hone r hr
            have := ha.2.2 q hq
            omega, fun q hq => by
          rw [plAll_append, List.mem_append] at hq
          rcases hq with hq | hq
          · have := ha.2.2 q hq; omega
          · simp only [plAll, List.flatMap_cons, List.flatMap_nil, List.append_nil] at hq
            have := hone q hq; omega⟩ (by rw [List.length_append, List.length_singleton]; omega)
      refine ⟨p, ev_next (fun k => ?_) hp, hap, hpl⟩
      simp only [lockfastref04_Made.l0]
      rw [w64 (x := (i : Int) + 1) (by omega), if_pos (by omega), if_pos (by omega), if_pos (by omega), if_pos (by omega), if_pos (by omega), rdI x i (by omega)]
      rw [show (i : Int) + 1 = ((i + 1 : Nat) : Int) by omega, rdI x (i + 1) hc, e2, e3, w64 (x := a) (by omega), w64 (x := fr + 1) (by omega), w64 (x := b) (by omega), w64 (x := 1 + b) (by omega), w64 (x := fr + 1 + a) (by omega), w64 (x := fr + 1 + a + (1 + b)) (by omega), w64 (x := (i : Int) + 2) (by omega)]
      rfl
    · refine ⟨out, ev_next (f := fun _ => some out) (fun k => ?_) (ev_some _), ⟨ha.1, ha.2.1, fun q hq => by have := ha.2.2 q hq; omega⟩, by omega⟩
      simp only [lockfastref04_Made.l0]; rw [w64 (by omega), if_neg (by omega)]

theorem back_l0 (x y : List Int) (p : List S24) (hf : plFits p) (hxy : y.length = x.length) (hm : x.length ≤ 400) (hno : ∀ q, q ∉ plAll p → y[q]? = x[q]?) (hend : scatterVal y p (gatherVal x p) = x) : ∀ (d i : Nat), x.length - i = d → i ≤ x.length →
    Ev (fun k => lockfastlaw14_PieceBack.l0 k true x p y (i : Int)) true := by
  intro d
  induction d with
  | zero =>
    intro i hd hi
    obtain rfl : i = x.length := by omega
    refine Ev.step (fun k => by simp only [lockfastlaw14_PieceBack.l0]; rw [if_neg (by omega), if_pos (by trivial)]) ?_
    refine Ev.bind (gather_ev2 x p hf) (Ev.bind (scatter_ev2 y p _ hf (by omega)) (Ev.bind (words_same _ _ (by rw [hend]; omega) hend) (ev_some _)))
  | succ d ih =>
    intro i hd hi
    have hlt : i < x.length := by omega
    refine Ev.step (fun k => by simp only [lockfastlaw14_PieceBack.l0]; rw [if_pos (by omega), w64 (x := (i : Int) + 1) (by omega)]) ?_
    refine Ev.bind (has_ev p hf i (by omega)) ?_
    by_cases hq : i ∈ plAll p
    · exact Ev.congr (fun k => by rw [if_pos (decide_eq_true hq)]; rfl) (ih (i + 1) (by omega) (by omega))
    · have h1 := hno i hq
      rw [List.getElem?_eq_getElem (by omega), List.getElem?_eq_getElem hlt] at h1
      injection h1 with h1
      exact Ev.congr (fun k => by rw [if_neg (by simp [hq]), if_pos (by omega), if_pos (by omega), rdI y i (by omega), rdI x i hlt, if_pos h1]; rfl) (ih (i + 1) (by omega) (by omega))

theorem u8_range' {x : Int} (h : (Lit.int .u8 x).wf = true) : 0 ≤ x ∧ x ≤ 255 := by
  have h1 : IntKind.u8.min = 0 := by decide
  have h2 : IntKind.u8.max = 255 := by decide
  simp only [Lit.wf, Bool.and_eq_true, decide_eq_true_eq] at h
  omega
theorem PieceBack : lockfastlaw14_PieceBack.Fact := by
  intro image l words hi _ _ hl _ hlw hw _ _
  suffices h : Ev (fun k => lockfastlaw14_PieceBack.f k image l words) true from h.rounds
  unfold lockfastlaw14_PieceBack.f
  refine Ev.bind awake_ev ?_
  have hstop : Ev (fun k => lockfastlaw14_PieceBack.j0 k image l words true true) true := ev_next (f := fun _ => some true) (fun k => by simp only [lockfastlaw14_PieceBack.j0]; rw [if_pos (by trivial)]) (ev_some _)
  by_cases c1 : (image.length : Int) > 100
  · exact Ev.congr (fun k => by rw [if_pos c1]) hstop
  · refine Ev.congr (fun k => by rw [if_neg c1]) ?_
    by_cases c2 : (l.length : Int) > 18
    · exact Ev.congr (fun k => by rw [if_pos c2]) hstop
    · refine Ev.congr (fun k => by rw [if_neg c2]) ?_
      by_cases c3 : (words.length : Int) > 100
      · rw [decide_eq_true c3]; exact hstop
      · rw [decide_eq_false c3]
        obtain ⟨p, hp, ⟨hpb, hpn, hpq⟩, hpl⟩ := made_l0 l (fun n hn => u8_range' (hlw n hn)) (by omega) l.length 0 0 [] (by omega) (by omega) (by omega) (by omega) ⟨by simp, by simp [plAll], by simp [plAll]⟩ (by simp)
        have hpf : plFits p := ⟨fun s hs => by have := hpb s hs; omega, by omega⟩
        obtain ⟨x, hx⟩ : ∃ x : List Int, image ++ List.replicate 200 0 = x := ⟨_, rfl⟩
        have hxl : x.length = image.length + 200 := by rw [← hx, List.length_append, List.length_replicate]
        have htot : (plAll p).length ≤ 162 := by
          have : ∀ (l : List S24), (∀ s ∈ l, s.f1 ≤ 9) → (plAll l).length ≤ l.length * 9 := by
            intro l
            induction l with
            | nil => intro _; simp [plAll]
            | cons s l ih =>
              intro h
              have h1 := h s (by simp)
              have h2 := ih (fun t ht => h t (by simp [ht]))
              rw [plAll_cons, List.length_append, plOne_length, List.length_cons]
              omega
          have := this p (fun s hs => (hpb s hs).2.2.2)
          omega
        have hmade : Ev (fun k => lockfastref04_Made.f k 0 l) p := by simpa [lockfastref04_Made.f] using hp
        refine Ev.step (fun k => by
          simp only [lockfastlaw14_PieceBack.j0, Option.bind_some, List.length_nil, Nat.zero_add, List.nil_append]
          rw [if_neg (by simp), if_pos (by omega), if_pos (by omega), hx]) ?_
        refine Ev.bind hmade (Ev.bind (total_ev p hpf) ?_)
        by_cases c4 : ((plAll p).length : Int) > (words.length : Int)
        · exact Ev.congr (fun k => by rw [if_pos c4]) (ev_some _)
        · refine Ev.congr (fun k => by rw [if_neg c4]) ?_
          refine Ev.bind (scatter_ev2 x p words hpf (by omega)) ?_
          have hyl : (scatterVal x p words).length = x.length := by unfold scatterVal; exact scatterPre_length _ _ _
          refine Ev.congr (fun k => by rw [if_pos (by rw [hyl])]) ?_
          refine Ev.bind (gather_ev2 _ p hpf) (Ev.bind (total_ev p hpf) ?_)
          refine Ev.congr (fun k => by rw [if_pos (by omega), if_pos (by omega), Int.toNat_natCast]) ?_
          have hlt : ∀ j (h : j < (plAll p).length), (plAll p)[j] < x.length := fun j h => by
            have := hpq _ (List.getElem_mem h); omega
          have hg : gatherVal (scatterVal x p words) p = words.take (plAll p).length := by
            apply List.ext_getElem
            · simp [gatherVal]; omega
            · intro j h1 h2
              have hj : j < (plAll p).length := by simpa [gatherVal] using h1
              have h3 := val_in x words p hpn (by omega) j hj (hlt j hj)
              simp only [gatherVal, List.getElem_map, List.getElem_take]
              rw [List.getD_eq_getElem?_getD, h3, Option.getD_some, List.getD_eq_getElem?_getD, List.getElem?_eq_getElem (by omega)]
              rfl
          refine Ev.bind (words_same _ _ (by rw [hg, List.length_take]; omega) hg) ?_
          refine Ev.step (fun k => by simp only [lockfastlaw14_PieceBack.j1]; rw [if_neg (by simp)]) ?_
          have hend : scatterVal (scatterVal x p words) p (gatherVal x p) = x := by
            apply List.ext_getElem?
            intro q
            by_cases hq : q ∈ plAll p
            · obtain ⟨j, hj, rfl⟩ := List.mem_iff_getElem.1 hq
              rw [val_in _ _ p hpn (by simp [gatherVal]) j hj (by rw [hyl]; exact hlt j hj), List.getElem?_eq_getElem (hlt j hj)]
              simp [gatherVal, hj, hlt j hj]
            · rw [val_out _ _ p q hq, val_out _ _ p q hq]
          have h := back_l0 x (scatterVal x p words) p hpf hyl (by omega) (fun q hq => val_out _ _ p q hq) hend x.length 0 (by omega) (by omega)
          exact h
end Go.Proofs.Ytccnoemcpmdeaaa.Pure
