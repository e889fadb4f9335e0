-- Written by lfprint.py of this session's own, by way of the kit's print.py; with hand-made contracts.
import Derived.Test.YtlbgepadkaehiaaDoorQx21
import Derived.Test.YtlbgepadkaehiaaDoorQOps
namespace Go.Proofs.YtlbgepadkaehiaaDoor.Q
open Go.RowKit Go.Proofs.YtlbgepadkaehiaaDoorW.PrintWords
/-- The one pure statement of OidTexts. -/
def lockfastlaw08_OidTexts.Fact : Prop := ∀ (a0 : S24) (a1 : ByteArray) (a2 : Int) (a3 : S26), wf24 a0 → a1.size ≤ 140737488351232 → (Lit.int .i64 a2).wf = true → wf26 a3 → ∃ k, lockfastlaw08_OidTexts.f k a0.f0 a0.f1 a0.f2 a1 a2 a3.f0 a3.f1 a3.f2 = some true
end Go.Proofs.YtlbgepadkaehiaaDoor.Q
