/- The chapter's example answers true. -/
import Derived.Test.YtccnoemcpmdeaaaQx7
import Derived.Test.YtccnoemcpmdeaaaPieceLib
set_option linter.unusedVariables false
set_option linter.unusedSimpArgs false
namespace Go.Proofs.Ytccnoemcpmdeaaa.Pure
open Go.RowKit Go.Proofs.Ytccnoemcpmdeaaa.Q Go.Proofs.YtccnoemcpmdeaaaW.PrintWords Go.Proofs.YtccnoemcpmdeaaaW.PrintLast
theorem awake_20 : lockfastlaw14_awake.f 20 = some true := by decide +kernel
theorem awake_ev : Ev (fun k => lockfastlaw14_awake.f k) true := Ev.of (fun k => lockfastlaw14_awake.mono k) awake_20
end Go.Proofs.Ytccnoemcpmdeaaa.Pure
