-- Written by lfprint.py of this session's own, by way of the kit's print.py; with hand-made contracts.
import Derived.RangeFuncNested
import Derived.RangeFuncBound
import Derived.RangeFuncBox
import Derived.RangeFuncCalls
import Derived.RangeFuncLeaves
import Derived.Shelf.Abstract
import Derived.Shelf.RegionOpen
import Derived.OwnWalkIn
import Derived.TacticsInMore
import Derived.LoopNIn
import Derived.LoopIn
import Derived.Maps.AppendAt
import Derived.Outline
import Derived.Test.YtflbmccjfnkflaaDoorQx0
namespace Go.Proofs.YtflbmccjfnkflaaDoor.Q
open Go.RowKit Go.Proofs.YtflbmccjfnkflaaDoorW.PrintWords Go.Proofs.YtflbmccjfnkflaaDoorW.PrintLast Go.Proofs.YtflbmccjfnkflaaDoorW.PrintMore
attribute [local go_sem] max2_int min2_int max_two min_two max_three min_three max_four min_four   -- for this text's walks alone
set_option linter.unusedVariables false
set_option linter.unusedSimpArgs false

/-- The blocks below n₀, and those of one type, are as they were. -/
def KeepT (n₀ t : Nat) (W W' : World) : Prop := Below n₀ W W' ∧ ∀ (k : Nat) (cs : Array Value) (fr : Nat × Nat), W.heap[k]? = some (Obj.cells cs t fr) → W'.heap[k]? = some (Obj.cells cs t fr)
theorem KeepT.trans {n₀ t : Nat} {A B C : World} (h : KeepT n₀ t A B) (k : KeepT n₀ t B C) : KeepT n₀ t A C := ⟨h.1.trans k.1, fun i cs fr hi => k.2 i cs fr (h.2 i cs fr hi)⟩
theorem KeepT.refl (n₀ t : Nat) (A : World) : KeepT n₀ t A A := ⟨Below.refl _ _, fun _ _ _ h => h⟩
theorem KeepT.put {n₀ t : Nat} {w : World} (hn : n₀ ≤ w.heap.size) (W : World) (l : Nat) (o o' : Obj) (hl : w.heap.size ≤ l) (h : W.heap[l]? = some o) (hc : o.isCells = false) (hw : o.isWalk = false) : KeepT n₀ t W (W.putObj l o') :=
  ⟨belowK_b hn W l o o' hl h hc hw, fun k cs fr hk => by
    by_cases e : k = l
    · subst e; rw [hk] at h; cases h; cases hc
    · exact ((grownBy_putObj' W l o').block k (Array.getElem?_eq_some_iff.1 hk).1 (fun e' => e (by cases e'; rfl))).trans hk⟩

theorem keepT_appended {W w1 : World} {n₀ B b : Nat} {t t' e : TypeId} {size k : Nat} {v v' : Value} {xs : List Value} {tmp : Obj} (hv : Boxed W B t' v) (ht : t' ≠ t) (hrow : W.ownsRow b e size v k xs) (he : e ≠ t)
    (hg : (W.alloc tmp).grownBy w1 v.ownBlock) (hb : Below n₀ W (w1.setCell ⟨B, 0, none⟩ v')) : KeepT n₀ t W (w1.setCell ⟨B, 0, none⟩ v') := by
  refine ⟨hb, fun i cs fr hi => ?_⟩
  have hlt := (Array.getElem?_eq_some_iff.1 hi).1
  have h1 : (W.alloc tmp).heap[i]? = some (Obj.cells cs t fr) := (Below.heap_alloc W tmp i hlt).trans hi
  have h2 : w1.heap[i]? = some (Obj.cells cs t fr) := by
    refine (hg.block i (by simp; omega) (fun e' => ?_)).trans h1
    obtain ⟨cells, hc⟩ := own_typed hrow i e'.symm
    rw [hi] at hc; injection hc with hc; injection hc with _ h3; exact he h3.symm
  refine (Below.heap_setCell w1 ⟨B, 0, none⟩ v' i (fun e' => ?_)).trans h2
  subst e'
  rw [show W.heap[i]? = _ from hv] at hi; injection hi with hi; injection hi with _ h3; exact ht h3
theorem below_grown {W W' : World} (h : Below W.heap.size W W') : W.grownBy W' none := ⟨h.os, h.tape, h.output, h.size, fun k hk _ => h.block k hk⟩
theorem KeepT.of_below {n₀ t : Nat} {W W' : World} (h : Below W.heap.size W W') (hn : n₀ ≤ W.heap.size) : KeepT n₀ t W W' := ⟨h.mono hn, fun k _ _ hk => (h.block k (Array.getElem?_eq_some_iff.1 hk).1).trans hk⟩

end Go.Proofs.YtflbmccjfnkflaaDoor.Q
