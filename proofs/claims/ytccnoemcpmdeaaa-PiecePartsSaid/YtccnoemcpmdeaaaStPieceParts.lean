-- Written by lfprint.py of this session's own, by way of the kit's print.py; with hand-made contracts.
import Derived.Test.YtccnoemcpmdeaaaQx11
import Derived.Test.YtccnoemcpmdeaaaQOps
namespace Go.Proofs.Ytccnoemcpmdeaaa.Q
open Go.RowKit Go.Proofs.YtccnoemcpmdeaaaW.PrintWords
/-- The one pure statement of PieceParts. -/
def lockfastlaw14_PieceParts.Pure : Prop := ∀ (l0 : List Int) (l1 : List (S24)) (l2 : List (S24)) (a3 : Int), l0.length ≤ maxLen → l0.length * 8 ≤ 140737488351232 → (∀ x_ ∈ l0, (Lit.int .u64 x_).wf = true) → l1.length ≤ maxLen → l1.length * 16 ≤ 140737488351232 → (∀ x_ ∈ l1, wf24 x_) → l2.length ≤ maxLen → l2.length * 16 ≤ 140737488351232 → (∀ x_ ∈ l2, wf24 x_) → (Lit.int .u16 a3).wf = true → ∃ k, lockfastlaw14_PieceParts.f k l0 l1 l2 a3 = some true
end Go.Proofs.Ytccnoemcpmdeaaa.Q
