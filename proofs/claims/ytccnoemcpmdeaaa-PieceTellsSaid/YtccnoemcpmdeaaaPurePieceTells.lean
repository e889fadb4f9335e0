import Derived.Test.YtccnoemcpmdeaaaStPieceTells
import Derived.Test.YtccnoemcpmdeaaaPieceCut
import Derived.Test.YtccnoemcpmdeaaaPieceAwake
set_option linter.unusedVariables false
set_option linter.unusedSimpArgs false
namespace Go.Proofs.Ytccnoemcpmdeaaa.Pure
open Go.RowKit Go.Proofs.Ytccnoemcpmdeaaa.Q Go.Proofs.YtccnoemcpmdeaaaW.PrintWords Go.Proofs.YtccnoemcpmdeaaaW.PrintLast
theorem PieceTells : lockfastlaw14_PieceTells.Pure := by
  intro l i s hl _ _ hi hs
  suffices h : Ev (fun k => lockfastlaw14_PieceTells.f k l i s.f0 s.f1) true from h.rounds
  have hm : l.length ≤ 9223372036854775806 := by omega
  unfold lockfastlaw14_PieceTells.f
  refine Ev.bind awake_ev (Ev.bind (few_ev l hm) ?_)
  have hstop : ∀ a b, Ev (fun k => lockfastlaw14_PieceTells.j0 k l i true true a b) true := fun a b => ev_next (f := fun _ => some true) (fun k => by simp only [lockfastlaw14_PieceTells.j0]; rw [if_pos (by trivial)]) (ev_some _)
  by_cases hfew : few l = true
  · refine Ev.congr (fun k => by rw [if_pos hfew]) ?_
    obtain ⟨hfit, hl9, hfb⟩ := few_fits hfew
    by_cases h1 : s.f0 < (-1099511627776)
    · exact Ev.congr (fun k => by rw [if_pos h1]) (hstop _ _)
    · refine Ev.congr (fun k => by rw [if_neg h1]) ?_
      by_cases h2 : s.f0 > 1099511627776
      · exact Ev.congr (fun k => by rw [if_pos h2]) (hstop _ _)
      · refine Ev.congr (fun k => by rw [if_neg h2]) ?_
        by_cases h3 : s.f1 < (-1099511627776)
        · exact Ev.congr (fun k => by rw [if_pos h3]) (hstop _ _)
        · refine Ev.congr (fun k => by rw [if_neg h3]) ?_
          by_cases h4 : s.f1 > 1099511627776
          · exact Ev.congr (fun k => by rw [if_pos h4]) (hstop _ _)
          · refine Ev.congr (fun k => by rw [if_neg h4]) ?_
            by_cases h5 : i < (-1099511627776)
            · exact Ev.congr (fun k => by rw [if_pos h5]) (hstop _ _)
            · refine Ev.congr (fun k => by rw [if_neg h5]) ?_
              by_cases h6 : i > 1099511627776
              · rw [decide_eq_true h6]; exact hstop _ _
              · rw [decide_eq_false h6]
                refine Ev.step (fun k => by simp only [lockfastlaw14_PieceTells.j0]; rw [if_neg (by simp), if_pos (by trivial)]) ?_
                refine Ev.bind (total_ev l hfit) (Ev.bind (places_ev l hfit) ?_)
                refine Ev.congr (fun k => by rw [if_pos (by rw [List.length_map])]) ?_
                refine Ev.bind (at_ev l hfit i (by omega) (by omega)) (Ev.bind (refAt_ev l hfit i) ?_)
                refine Ev.congr (fun k => by rw [if_pos (by trivial)]) ?_
                refine Ev.bind (cut_ev l hfit s.f0 s.f1 (by omega) (by omega) (by omega) (by omega)) (Ev.bind (refCut_ev l hfit s.f0 s.f1 (by omega) (by omega) (by omega) (by omega)) ?_)
                exact Ev.bind (same_ev _ _ (by have := cutSpec_length l s.f0 s.f1; omega) rfl) (ev_some _)
  · exact Ev.congr (fun k => by rw [if_neg hfew]) (hstop _ _)
end Go.Proofs.Ytccnoemcpmdeaaa.Pure
