-- Written by lfprint.py of this session's own, by way of the kit's print.py; with hand-made contracts.
import Derived.Test.YtccnoemcpmdeaaaQx11
import Derived.Test.YtccnoemcpmdeaaaQOps
namespace Go.Proofs.Ytccnoemcpmdeaaa.Q
open Go.RowKit Go.Proofs.YtccnoemcpmdeaaaW.PrintWords
/-- The one pure statement of PieceCuts. -/
def lockfastlaw14_PieceCuts.Fact : Prop := ∀ (l0 : List (S24)) (a1 : Int) (a2 : Int) (a3 : Int) (a4 : Int), l0.length ≤ maxLen → l0.length * 16 ≤ 140737488351232 → (∀ x_ ∈ l0, wf24 x_) → (Lit.int .u8 a1).wf = true → (Lit.int .u8 a2).wf = true → (Lit.int .u8 a3).wf = true → (Lit.int .u8 a4).wf = true → ∃ k, lockfastlaw14_PieceCuts.f k l0 a1 a2 a3 a4 = some true
end Go.Proofs.Ytccnoemcpmdeaaa.Q
