-- Written by lfprint.py of this session's own, by way of the kit's print.py; with hand-made contracts.
import Derived.Test.YtflbmccjfnkflaaDoorQx30
import Derived.Test.YtflbmccjfnkflaaDoorQOps
namespace Go.Proofs.YtflbmccjfnkflaaDoor.Q
open Go.RowKit Go.Proofs.YtflbmccjfnkflaaDoorW.PrintWords
/-- The one pure statement of TileWhole. -/
def lockfastlaw11_TileWhole.Fact : Prop := ∀ (l0 : List Int), l0.length ≤ maxLen → l0.length * 2 ≤ 140737488351232 → (∀ x_ ∈ l0, (Lit.int .u16 x_).wf = true) → ∃ k, lockfastlaw11_TileWhole.f k l0 = some true
end Go.Proofs.YtflbmccjfnkflaaDoor.Q
