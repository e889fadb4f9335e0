-- Written by lfprint.py of this session's own, by way of the kit's print.py; with hand-made contracts.
import Derived.Test.YtflbmccjfnkflaaDoorQx22
import Derived.Test.YtflbmccjfnkflaaDoorQOps
namespace Go.Proofs.YtflbmccjfnkflaaDoor.Q
open Go.RowKit Go.Proofs.YtflbmccjfnkflaaDoorW.PrintWords
/-- The one pure statement of TileParts. -/
def lockfastlaw11_TileParts.Fact : Prop := ∀ (l0 : List Int) (l1 : List Int), l0.length ≤ maxLen → l0.length * 2 ≤ 140737488351232 → (∀ x_ ∈ l0, (Lit.int .u16 x_).wf = true) → l1.length ≤ maxLen → l1.length * 2 ≤ 140737488351232 → (∀ x_ ∈ l1, (Lit.int .u16 x_).wf = true) → ∃ k, lockfastlaw11_TileParts.f k l0 l1 = some true
end Go.Proofs.YtflbmccjfnkflaaDoor.Q
