-- Written by lfprint.py of this session's own, by way of the kit's print.py; with hand-made contracts.
import Derived.Lib.LaidTab
import Derived.Lib.SmallJoins
import Derived.Lib.ItoaMem
import Derived.Test.YtlbgepadkaehiaaDoorQx0
namespace Go.Proofs.YtlbgepadkaehiaaDoor.Q
open Go.RowKit Go.Proofs.YtlbgepadkaehiaaDoorW.PrintWords Go.Proofs.YtlbgepadkaehiaaDoorW.PrintLast Go.Proofs.YtlbgepadkaehiaaDoorW.PrintMore
attribute [local go_sem] max2_int min2_int max_two min_two max_three min_three max_four min_four   -- for this text's walks alone
set_option linter.unusedVariables false
set_option linter.unusedSimpArgs false

/-- An interface's value lies in a variable. -/
def IsErrVar (w : World) (g : Nat) : Prop := ∃ te pe, w.cell? ⟨g, 0, none⟩ = some (.iface te pe)
/-- The listed variables are as the program's text lays them, as far as the walks ask. -/
def Gl (w : World) : Prop := Lib.TabIs Tryd.prog w "internal/strconv.uint64pow10" .u64 Lib.pow10Tab ∧ IsErrVar w 1 ∧ IsErrVar w 2
theorem pow10_named : Tryd.prog.globalNamed "internal/strconv.uint64pow10" = some 0 := by kernel_rfl
theorem IsErrVar.below {w W : World} {g : Nat} (h : IsErrVar w g) (hb : Below w.heap.size w W) : IsErrVar W g := by
  obtain ⟨te, pe, h⟩ := h
  exact ⟨te, pe, pw_cell_below hb h⟩
theorem Gl.below {w W : World} (h : Gl w) (hb : Below w.heap.size w W) : Gl W := ⟨Joins.tab_stays pow10_named h.1 hb (Nat.le_refl _), h.2.1.below hb, h.2.2.below hb⟩
theorem Gl.drewN {w : World} (h : Gl w) (n : Nat) : Gl (w.drewN n) := h
theorem Gl.drew {w : World} (h : Gl w) : Gl w.drew := h
theorem Gl.drawn {w W : World} (h : Gl w) (hd : Drawn0 w W) : Gl W := h.below hd.below
theorem Gl.alloc {w : World} (h : Gl w) (o : Obj) : Gl (w.alloc o) := h.below ((Below.refl _ w).alloc (Nat.le_refl _) o)
/-- A call, where those are so. -/
def CallsG (n : Nat) (args : Array Value) (w : World) (R : Ending → World → Prop) : Prop := Gl w → Calls Tryd.prog n args w R
theorem CallsG.mono {n : Nat} {args : Array Value} {w : World} {R R' : Ending → World → Prop} (h : CallsG n args w R) (k : ∀ e w', R e w' → R' e w')
    (hG : Gl w := by first | exact HG.out | exact Gl.below HG.out HB.out | exact Gl.below HG.out (by repeat (first | exact HB.out | apply below_alloc | apply pw_below_drewN | apply below_drew1 | refine below_set ?_ (Aside0.out (by assumption)))) | (repeat (first | exact HG.out | apply Gl.drewN | apply Gl.drew | apply Gl.alloc))) : Calls Tryd.prog n args w R' := (h hG).mono k

end Go.Proofs.YtlbgepadkaehiaaDoor.Q
