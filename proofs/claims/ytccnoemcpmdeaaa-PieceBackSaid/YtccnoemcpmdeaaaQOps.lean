-- Written by lfprint.py of this session's own, by way of the kit's print.py; with hand-made contracts.
import Derived.Test.YtccnoemcpmdeaaaQx0
import Derived.Test.YtccnoemcpmdeaaaOpens
import Derived.KernelRfl
namespace Go.Proofs.Ytccnoemcpmdeaaa.Q
open Go.RowKit Go.Proofs.YtccnoemcpmdeaaaW.PrintWords Go.Proofs.Ytccnoemcpmdeaaa.Opens
def wf24 (x : S24) : Prop := ((Lit.int .i64 x.f0).wf = true) ∧ ((Lit.int .i64 x.f1).wf = true)
theorem op24 : Opens Try.prog 24 k24 wf24 := opens_struct (fun x : S24 => (x.f0, x.f1)) (fun b => ⟨b.1, b.2⟩) (fun _ => rfl) Try.underlying24 (by kernel_rfl) (opensF_cons (opens_int (k := .i64) Try.underlying3) rfl (by kernel_rfl) (opensF_last (opens_int (k := .i64) Try.underlying3) rfl (by kernel_rfl)) (by decide))
end Go.Proofs.Ytccnoemcpmdeaaa.Q
