-- Written by lfprint.py of this session's own, by way of the kit's print.py; with hand-made contracts.
import Derived.Test.YtflbmccjfnkflaaDoorQx0
import Derived.Test.YtflbmccjfnkflaaDoorOpens
import Derived.KernelRfl
namespace Go.Proofs.YtflbmccjfnkflaaDoor.Q
open Go.RowKit Go.Proofs.YtflbmccjfnkflaaDoorW.PrintWords Go.Proofs.YtflbmccjfnkflaaDoor.Opens
end Go.Proofs.YtflbmccjfnkflaaDoor.Q
