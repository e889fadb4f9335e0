import Derived.Test.YtccnoemcpmdeaaaStPieceLays
import Derived.Test.YtccnoemcpmdeaaaPieceLay
import Derived.Test.YtccnoemcpmdeaaaPieceAwake
set_option linter.unusedVariables false
set_option linter.unusedSimpArgs false
namespace Go.Proofs.Ytccnoemcpmdeaaa.Pure
open Go.RowKit Go.Proofs.Ytccnoemcpmdeaaa.Q Go.Proofs.YtccnoemcpmdeaaaW.PrintWords Go.Proofs.YtccnoemcpmdeaaaW.PrintLast
theorem PieceLays : lockfastlaw14_PieceLays.Pure := by
  intro image l words hi _ _ hl _ _ hw _ _
  suffices h : Ev (fun k => lockfastlaw14_PieceLays.f k image l words) true from h.rounds
  have hm : l.length ≤ 9223372036854775806 := by omega
  unfold lockfastlaw14_PieceLays.f
  refine Ev.bind awake_ev (Ev.bind (few_ev l hm) ?_)
  have hstop : Ev (fun k => lockfastlaw14_PieceLays.j0 k image l words true true) true := ev_next (f := fun _ => some true) (fun k => by simp only [lockfastlaw14_PieceLays.j0]; rw [if_pos (by trivial)]) (ev_some _)
  by_cases hfew : few l = true
  · refine Ev.congr (fun k => by rw [if_pos hfew]) ?_
    obtain ⟨hfit, hl9, hfb⟩ := few_fits hfew
    by_cases h1 : (image.length : Int) > 60
    · exact Ev.congr (fun k => by rw [if_pos h1]) hstop
    · refine Ev.congr (fun k => by rw [if_neg h1]) ?_
      by_cases h2 : (words.length : Int) > 60
      · rw [decide_eq_true h2]; exact hstop
      · rw [decide_eq_false h2]
        have hp : (plAll l).length ≤ 9437184 := by
          have h1 := plAll_len_le l (fun s hs => (hfit.1 s hs).2.2.2)
          omega
        refine Ev.step (fun k => by simp only [lockfastlaw14_PieceLays.j0]; rw [if_neg (by simp), if_pos (by trivial)]) ?_
        refine Ev.bind (gather_ev image l hfit) (Ev.bind (refGather_ev image l hfit) (Ev.bind (words_same _ _ (by simp [gatherVal]; omega) rfl) ?_))
        refine Ev.congr (fun k => by rw [if_pos (by trivial)]) ?_
        refine Ev.bind (scatter_ev image l words hfit (by omega)) (Ev.bind (refScatter_ev image l words hfit (by omega)) (Ev.bind (words_same _ _ (by unfold scatterVal; rw [scatterPre_length]; omega) rfl) (ev_some _)))
  · exact Ev.congr (fun k => by rw [if_neg hfew]) hstop
end Go.Proofs.Ytccnoemcpmdeaaa.Pure
