-- Written by lfprint.py of this session's own, by way of the kit's print.py; with hand-made contracts.
import Derived.Test.YtlbgepadkaehiaaDoorQx26
import Derived.Test.YtlbgepadkaehiaaDoorQOps
namespace Go.Proofs.YtlbgepadkaehiaaDoor.Q
open Go.RowKit Go.Proofs.YtlbgepadkaehiaaDoorW.PrintWords
/-- The one pure statement of OidSigns. -/
def lockfastlaw08_OidSigns.Fact : Prop := ∀ (a0 : S26) (a1 : Int), wf26 a0 → (Lit.int .u8 a1).wf = true → ∃ k, lockfastlaw08_OidSigns.f k a0.f0 a0.f1 a0.f2 a1 = some true
end Go.Proofs.YtlbgepadkaehiaaDoor.Q
