-- Written by lfprint.py of this session's own, by way of the kit's print.py; with hand-made contracts.
import Derived.Test.YtccnoemcpmdeaaaQx9
import Derived.Test.YtccnoemcpmdeaaaQOps
namespace Go.Proofs.Ytccnoemcpmdeaaa.Q
open Go.RowKit Go.Proofs.YtccnoemcpmdeaaaW.PrintWords
/-- The one pure statement of PieceTells. -/
def lockfastlaw14_PieceTells.Pure : Prop := ∀ (l0 : List (S24)) (a1 : Int) (a2 : S24), l0.length ≤ maxLen → l0.length * 16 ≤ 140737488351232 → (∀ x_ ∈ l0, wf24 x_) → (Lit.int .i64 a1).wf = true → wf24 a2 → ∃ k, lockfastlaw14_PieceTells.f k l0 a1 a2.f0 a2.f1 = some true
end Go.Proofs.Ytccnoemcpmdeaaa.Q
