/- The reference's Gather and Scatter: as the program's. -/
import Derived.Test.YtccnoemcpmdeaaaQx11
import Derived.Test.YtccnoemcpmdeaaaQx14
import Derived.Test.YtccnoemcpmdeaaaQx13
import Derived.Test.YtccnoemcpmdeaaaPieceLib
set_option linter.unusedVariables false
set_option linter.unusedSimpArgs false
namespace Go.Proofs.Ytccnoemcpmdeaaa.Pure
open Go.RowKit Go.Proofs.Ytccnoemcpmdeaaa.Q Go.Proofs.YtccnoemcpmdeaaaW.PrintWords Go.Proofs.YtccnoemcpmdeaaaW.PrintLast

theorem refGather_l0 (image : List Int) (ps : List Nat) (hp : ps.length ≤ 1099511627776) : ∀ (d i : Nat) (out : List Int), ps.length - i = d → i ≤ ps.length → out.length ≤ i →
    Ev (fun k => lockfastref14_Gather.l0 k image out (ps.map Int.ofNat) (i : Int)) (out ++ (ps.drop i).map fun p => image.getD p 0) := by
  intro d
  induction d with
  | zero =>
    intro i out hd hi ho
    obtain rfl : i = ps.length := by omega
    refine ev_next (f := fun _ => some out) (fun k => by simp only [lockfastref14_Gather.l0]; rw [if_neg (by simp)]) (ev_eq (ev_some _) (by simp))
  | succ d ih =>
    intro i out hd hi ho
    have hlt : i < ps.length := by omega
    have hrd : rd (ps.map Int.ofNat) (i : Int) = (ps[i] : Int) := by rw [rdI _ i (by rw [List.length_map]; exact hlt)]; simp
    refine ev_next (f := fun k => lockfastref14_Gather.l0 k image (out ++ [image.getD ps[i] 0]) (ps.map Int.ofNat) ((i + 1 : Nat) : Int)) (fun k => ?_) (ev_eq (ih (i + 1) (out ++ [image.getD ps[i] 0]) (by omega) (by omega) (by rw [List.length_append, List.length_singleton]; omega)) ?_)
    · simp only [lockfastref14_Gather.l0]
      rw [List.length_map, if_pos (by omega), if_pos (by omega), hrd, w64 (by omega)]
      by_cases hc : ps[i] < image.length
      · rw [if_pos (by omega), if_pos (by omega), if_pos (by omega), rdI image ps[i] hc]
        simp [hc]
      · rw [if_neg (by omega), if_pos (by omega)]
        simp [List.getElem?_eq_none (Nat.le_of_not_lt hc)]
    · rw [List.drop_eq_getElem_cons hlt, List.map_cons, List.append_assoc]; rfl
theorem refGather_ev (image : List Int) (l : List S24) (hf : plFits l) : Ev (fun k => lockfastref14_Gather.f k image l) (gatherVal image l) := by
  have hp : (plAll l).length ≤ 1099511627776 := by
    have h1 := plAll_len_le l (fun s hs => (hf.1 s hs).2.2.2)
    have h2 := hf.2
    omega
  unfold lockfastref14_Gather.f
  refine Ev.bind (places_ev l hf) ?_
  have h := refGather_l0 image (plAll l) hp (plAll l).length 0 [] (by omega) (by omega) (by simp)
  simpa [gatherVal] using h
theorem gather_ev (image : List Int) (l : List S24) (hf : plFits l) : Ev (fun _ => piece_Gather.f image l) (gatherVal image l) := by
  unfold piece_Gather.f; rw [if_pos hf]; exact ev_some _

theorem refScatter_l0 (words : List Int) (l : List S24) (hp : (plAll l).length ≤ 1099511627776) : ∀ (d i : Nat) (out : List Int), (plAll l).length - i = d → i ≤ (plAll l).length →
    Ev (fun k => lockfastref14_Scatter.l0 k words out ((plAll l).map Int.ofNat) (i : Int)) (scatterPre words out (((plPairs l).take words.length).drop i)) := by
  intro d
  have hpl := plPairs_length l
  induction d with
  | zero =>
    intro i out hd hi
    obtain rfl : i = (plAll l).length := by omega
    refine ev_next (f := fun k => lockfastref14_Scatter.j1 k words out ((plAll l).map Int.ofNat) (((plAll l).length : Nat) : Int) false) (fun k => by simp only [lockfastref14_Scatter.l0]; rw [if_neg (by simp)]) ?_
    refine ev_next (f := fun _ => some out) (fun k => by simp only [lockfastref14_Scatter.j1]; rw [if_neg (by simp)]) (ev_eq (ev_some _) ?_)
    rw [List.drop_of_length_le (by rw [List.length_take]; omega)]
    rfl
  | succ d ih =>
    intro i out hd hi
    have hlt : i < (plAll l).length := by omega
    have hrd : rd ((plAll l).map Int.ofNat) (i : Int) = ((plAll l)[i] : Int) := by rw [rdI _ i (by rw [List.length_map]; exact hlt)]; simp
    refine ev_next (f := fun k => lockfastref14_Scatter.j1 k words out ((plAll l).map Int.ofNat) (i : Int) (decide ((i : Int) < (words.length : Int)))) (fun k => by simp only [lockfastref14_Scatter.l0]; rw [if_pos (by rw [List.length_map]; omega)]) ?_
    by_cases hw : i < words.length
    · have hdr : ((plPairs l).take words.length).drop i = (i, (plAll l)[i]) :: ((plPairs l).take words.length).drop (i + 1) := by
        rw [List.drop_eq_getElem_cons (by rw [List.length_take]; omega)]
        congr 1
        rw [List.getElem_take]
        have h1 := plPairs_at l i
        rw [List.getElem?_eq_getElem (by omega), List.getElem?_eq_getElem hlt] at h1
        injection h1 with h1
      refine ev_next (f := fun k => lockfastref14_Scatter.l0 k words (scatterStep words out (i, (plAll l)[i])) ((plAll l).map Int.ofNat) ((i + 1 : Nat) : Int)) (fun k => ?_) (ev_eq (ih (i + 1) (scatterStep words out (i, (plAll l)[i])) (by omega) (by omega)) ?_)
      · simp only [lockfastref14_Scatter.j1]
        rw [if_pos (by simp; omega), List.length_map, if_pos (by omega), if_pos (by omega), hrd, w64 (by omega)]
        unfold scatterStep
        by_cases hc : (plAll l)[i] < out.length
        · rw [if_pos (by omega), if_pos (by omega), if_pos (by omega), if_pos hc, rdI words i hw]
          simp [hw]
        · rw [if_neg (by omega), if_neg hc]
          rfl
      · rw [hdr]; rfl
    · refine ev_next (f := fun _ => some out) (fun k => by simp only [lockfastref14_Scatter.j1]; rw [if_neg (by simp; omega)]) (ev_eq (ev_some _) ?_)
      rw [List.drop_of_length_le (by rw [List.length_take]; omega)]
      rfl
theorem refScatter_ev (image : List Int) (l : List S24) (words : List Int) (hf : plFits l) (hi : image.length < 17592186044416) : Ev (fun k => lockfastref14_Scatter.f k image l words) (scatterVal image l words) := by
  have hp : (plAll l).length ≤ 1099511627776 := by
    have h1 := plAll_len_le l (fun s hs => (hf.1 s hs).2.2.2)
    have h2 := hf.2
    omega
  unfold lockfastref14_Scatter.f
  simp only [Option.bind_some, List.length_nil, Nat.zero_add, List.nil_append]
  refine Ev.congr (fun k => by rw [if_pos hi]) ?_
  refine Ev.bind (places_ev l hf) ?_
  have h := refScatter_l0 words l hp (plAll l).length 0 image (by omega) (by omega)
  simpa [scatterVal] using h
theorem scatter_ev (image : List Int) (l : List S24) (words : List Int) (hf : plFits l) (hi : image.length < 17592186044416) : Ev (fun _ => piece_Scatter.f image l words) (scatterVal image l words) := by
  unfold piece_Scatter.f; rw [if_pos hi, if_pos hf]; exact ev_some _
end Go.Proofs.Ytccnoemcpmdeaaa.Pure
