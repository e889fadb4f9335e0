-- Written by lfprint.py of this session's own, by way of the kit's print.py; with hand-made contracts.
import Derived.Test.YtlbgepadkaehiaaDoorQx25
import Derived.Test.YtlbgepadkaehiaaDoorQOps
namespace Go.Proofs.YtlbgepadkaehiaaDoor.Q
open Go.RowKit Go.Proofs.YtlbgepadkaehiaaDoorW.PrintWords
/-- The one pure statement of OidHeaders. -/
def lockfastlaw08_OidHeaders.Fact : Prop := ∀ (a0 : S26) (l1 : List Int), wf26 a0 → l1.length ≤ maxLen → l1.length * 8 ≤ 140737488351232 → (∀ x_ ∈ l1, (Lit.int .u64 x_).wf = true) → ∃ k, lockfastlaw08_OidHeaders.f k a0.f0 a0.f1 a0.f2 l1 = some true
end Go.Proofs.YtlbgepadkaehiaaDoor.Q
