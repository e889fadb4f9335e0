-- Written by lfprint.py of this session's own, by way of the kit's print.py; with hand-made contracts.
import Derived.Test.YtccnoemcpmdeaaaQx16
import Derived.Test.YtccnoemcpmdeaaaQOps
namespace Go.Proofs.Ytccnoemcpmdeaaa.Q
open Go.RowKit Go.Proofs.YtccnoemcpmdeaaaW.PrintWords
/-- The one pure statement of PieceBack. -/
def lockfastlaw14_PieceBack.Fact : Prop := ∀ (l0 : List Int) (l1 : List Int) (l2 : List Int), l0.length ≤ maxLen → l0.length * 8 ≤ 140737488351232 → (∀ x_ ∈ l0, (Lit.int .u64 x_).wf = true) → l1.length ≤ maxLen → l1.length * 1 ≤ 140737488351232 → (∀ x_ ∈ l1, (Lit.int .u8 x_).wf = true) → l2.length ≤ maxLen → l2.length * 8 ≤ 140737488351232 → (∀ x_ ∈ l2, (Lit.int .u64 x_).wf = true) → ∃ k, lockfastlaw14_PieceBack.f k l0 l1 l2 = some true
end Go.Proofs.Ytccnoemcpmdeaaa.Q
