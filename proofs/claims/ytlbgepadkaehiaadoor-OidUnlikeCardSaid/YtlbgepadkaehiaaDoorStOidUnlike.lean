-- Written by lfprint.py of this session's own, by way of the kit's print.py; with hand-made contracts.
import Derived.Test.YtlbgepadkaehiaaDoorQx17
import Derived.Test.YtlbgepadkaehiaaDoorQOps
namespace Go.Proofs.YtlbgepadkaehiaaDoor.Q
open Go.RowKit Go.Proofs.YtlbgepadkaehiaaDoorW.PrintWords
/-- The one pure statement of OidUnlike. -/
def lockfastlaw08_OidUnlike.Fact : Prop := ∀ (a0 : S24) (a1 : S24) (a2 : S26) (a3 : S26), wf24 a0 → wf24 a1 → wf26 a2 → wf26 a3 → ∃ k, lockfastlaw08_OidUnlike.f k a0.f0 a0.f1 a0.f2 a1.f0 a1.f1 a1.f2 a2.f0 a2.f1 a2.f2 a3.f0 a3.f1 a3.f2 = some true
end Go.Proofs.YtlbgepadkaehiaaDoor.Q
