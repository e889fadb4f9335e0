-- Written by lfprint.py of this session's own, by way of the kit's print.py; with hand-made contracts.
import Derived.Test.YtlbgepadkaehiaaDoorQx0
import Derived.Test.YtlbgepadkaehiaaDoorOpens
import Derived.KernelRfl
namespace Go.Proofs.YtlbgepadkaehiaaDoor.Q
open Go.RowKit Go.Proofs.YtlbgepadkaehiaaDoorW.PrintWords Go.Proofs.YtlbgepadkaehiaaDoor.Opens
def wf24 (x : S24) : Prop := ((Lit.int .i64 x.f0).wf = true) ∧ ((Lit.int .i64 x.f1).wf = true) ∧ ((Lit.int .u64 x.f2).wf = true)
theorem op24 : Opens Tryd.prog 24 k24 wf24 := opens_struct (fun x : S24 => (x.f0, x.f1, x.f2)) (fun b => ⟨b.1, b.2.1, b.2.2⟩) (fun _ => rfl) Tryd.underlying24 (by kernel_rfl) (opensF_cons (opens_int (k := .i64) Tryd.underlying3) rfl (by kernel_rfl) (opensF_cons (opens_int (k := .i64) Tryd.underlying3) rfl (by kernel_rfl) (opensF_last (opens_int (k := .u64) Tryd.underlying22) rfl (by kernel_rfl)) (by decide)) (by decide))
def wf26 (x : S26) : Prop := ((Lit.int .i64 x.f0).wf = true) ∧ ((Lit.int .i64 x.f1).wf = true) ∧ ((Lit.int .u64 x.f2).wf = true)
theorem op26 : Opens Tryd.prog 26 k26 wf26 := opens_struct (fun x : S26 => (x.f0, x.f1, x.f2)) (fun b => ⟨b.1, b.2.1, b.2.2⟩) (fun _ => rfl) Tryd.underlying26 (by kernel_rfl) (opensF_cons (opens_int (k := .i64) Tryd.underlying3) rfl (by kernel_rfl) (opensF_cons (opens_int (k := .i64) Tryd.underlying3) rfl (by kernel_rfl) (opensF_last (opens_int (k := .u64) Tryd.underlying22) rfl (by kernel_rfl)) (by decide)) (by decide))
end Go.Proofs.YtlbgepadkaehiaaDoor.Q
