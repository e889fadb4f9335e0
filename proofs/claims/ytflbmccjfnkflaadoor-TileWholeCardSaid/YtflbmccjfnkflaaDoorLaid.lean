-- The laid variable: what the row lists, as the walks use it.
import Derived.Test.YtflbmccjfnkflaaDoorRows
import Derived.Test.YtflbmccjfnkflaaDoorQx5
import Derived.ChangeSame
import Derived.ChangeVars
import Derived.JoinedOf
import Derived.RowKit
import Derived.LaidLaws
namespace Go.Proofs.YtflbmccjfnkflaaDoor.Laid
open Go.ChangeShapes Go.WideShapes Go.RowKit Go.Proofs.YtflbmccjfnkflaaDoor.Q
abbrev rows {H : Type} : List (String × DataW H) := [("lockfast/class.blocks", Rows.laid_lockfast_class_blocks)]
theorem named : Tryd.prog.globalNamed "lockfast/class.blocks" = some 0 := by kernel_rfl
theorem typed : (Tryd.prog.globals[0]?).map (·.type) = some 119 := by kernel_rfl
theorem cellsT : Tryd.prog.cellsOf 119 = 3 := by kernel_rfl
theorem cellsE : Tryd.prog.cellsOf 3 = 1 := by kernel_rfl
theorem int_of_trod {H : Type} {enc : TypeId × Value → H} {P : Program} {w : World} {base : Nat} {sp : Nat → Bool} {held : Bool} {fuel : Nat} {t : TypeId} {k : IntKind} {c : Value} {y : DataW H × List MemPlace}
    (ht : P.underlying t = some (.int k)) (h : DataW.trod enc P w base sp held fuel t [c] = some y) : ∃ n, c = .int k n ∧ y = (.lit (.int k n), []) := by
  cases fuel with
  | zero => simp [DataW.trod] at h
  | succ fuel =>
    cases c <;> simp [DataW.trod, ht] at h
    rename_i k' n
    obtain ⟨⟨rfl, _⟩, rfl⟩ := h
    exact ⟨n, rfl, rfl⟩
def cells3 : Array Value := #[.int .i64 4, .int .i64 8, .int .i64 16]
theorem cells_of_laid {W : World} (h : laidMet Tryd.prog rows W) : W.var? Tryd.prog "lockfast/class.blocks" = some cells3 := by
  obtain ⟨ps, ⟨g, t, cs, fuel, p, q, hg, ht, hvar, hd, _, _⟩, _⟩ := h
  obtain rfl := Option.some.inj (named.symm.trans hg)
  obtain rfl := Option.some.inj (typed.symm.trans ht)
  rw [hvar]
  congr 1
  obtain ⟨l⟩ := cs
  cases fuel with
  | zero => simp [DataW.trod] at hd
  | succ fuel =>
    simp only [DataW.trod, Tryd.underlying119, cellsT, cellsE] at hd
    split at hd
    · rename_i hl
      obtain ⟨c0, c1, c2, rfl⟩ : ∃ c0 c1 c2, l = [c0, c1, c2] := by
        match l, hl with
        | [a, b, c], _ => exact ⟨a, b, c, rfl⟩
      have e : List.range 3 = [0, 1, 2] := rfl
      rw [e] at hd
      simp only [Option.map_eq_some_iff, List.mapM_cons, List.mapM_nil, Option.bind_eq_bind, Option.bind_eq_some_iff, Option.pure_def, Option.some.injEq] at hd
      obtain ⟨xs, ⟨y0, h0, _, ⟨y1, h1, _, ⟨y2, h2, _, rfl, rfl⟩, rfl⟩, rfl⟩, hx⟩ := hd
      obtain ⟨n0, rfl, rfl⟩ := int_of_trod Tryd.underlying3 h0
      obtain ⟨n1, rfl, rfl⟩ := int_of_trod Tryd.underlying3 h1
      obtain ⟨n2, rfl, rfl⟩ := int_of_trod Tryd.underlying3 h2
      simp [Rows.laid_lockfast_class_blocks] at hx
      obtain ⟨⟨rfl, rfl, rfl⟩, _⟩ := hx
      rfl
    · cases hd
theorem gl {W : World} (h : laidMet Tryd.prog rows W) : Gl W := by
  have hv := cells_of_laid h
  refine ⟨?_, ?_, ?_⟩
  · simpa [cells3] using World.var?_cell named hv 0
  · simpa [cells3] using World.var?_cell named hv 1
  · simpa [cells3] using World.var?_cell named hv 2
noncomputable def laidWorld (os : Os) : World :=
  { World.holding Tryd.prog os ⟨#[], #[], []⟩ with heap := (World.holding Tryd.prog os ⟨#[], #[], []⟩).heap.modify 0 fun
      | .cells _ t frozen => .cells cells3 t frozen
      | o => o }
theorem laidWorld_row (os : Os) (args : Array Value) : ((laidWorld os).forCall (fun _ _ => 0) ⟨#[], args, []⟩).memory.heap[0]? = some (.cells cells3 119 (0, 0)) := by kernel_rfl
set_option maxRecDepth 100000 in
theorem laidWorld_met (os : Os) (args : Array Value) : laidMet Tryd.prog rows ((laidWorld os).forCall (fun _ _ => 0) ⟨#[], args, []⟩).memory := by
  refine ⟨_, ⟨0, 119, cells3, 8, [], [], by kernel_rfl, by kernel_rfl, by kernel_rfl, by kernel_rfl, rfl, rfl⟩, by decide, fun b off h => ?_⟩
  have h' : MemPlace.cell b off ∈ [MemPlace.cell 0 0, .cell 0 1, .cell 0 2] := h
  have hb : b = 0 := by
    simp at h'
    omega
  subst hb
  refine ⟨⟨_, _, laidWorld_row os args⟩, fun u v hc => ?_⟩
  simp only [World.cell?, laidWorld_row os args] at hc
  simp at h'
  rcases h' with rfl | rfl | rfl <;> simp [cells3] at hc
end Go.Proofs.YtflbmccjfnkflaaDoor.Laid
