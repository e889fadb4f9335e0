/- The live blocks of chunks. -/
import Derived.Test.YtflbmccjfnkflaaDoorTileMade
import Derived.Test.YtflbmccjfnkflaaDoorQx15
set_option linter.unusedVariables false
set_option linter.unusedSimpArgs false
namespace Go.Proofs.YtflbmccjfnkflaaDoor.Pure
open Go.RowKit Go.Proofs.YtflbmccjfnkflaaDoor.Q Go.Proofs.YtflbmccjfnkflaaDoorW.PrintWords Go.Proofs.YtflbmccjfnkflaaDoorW.PrintLast Go.Proofs.YtflbmccjfnkflaaDoorW.PrintMore
theorem rdB (l : List Blk) (i : Nat) (h : i < l.length) : rd_T42 l (i : Int) = l[i] := by simp [rd_T42, h]
theorem blocks_ev (l : List Int) (hl : l.length ≤ 1048576) (hw : U64 l) : Ev (fun k => tile_Blocks.f k l) (blkAll (chV l).1) := by
  unfold tile_Blocks.f
  refine Ev.bind (chunks_ev l hl hw) ?_
  exact Ev.congr (fun k => by rw [if_pos (Nat.le_trans (chV_len l) hl)]) (ev_some _)
/-- The blocks of chunks, the first of which is the a-th. -/
def blkFrom (a : Nat) (l : List Chk) : List Blk := (l.zipIdx a).flatMap fun p => blkOne p.2 p.1
theorem blkFrom_cons (a : Nat) (c : Chk) (l : List Chk) : blkFrom a (c :: l) = blkOne a c ++ blkFrom (a + 1) l := by
  simp [blkFrom]
theorem blkAll_len (l : List Chk) : (blkAll l).length ≤ 9 * l.length := by
  have := blkAll_take_len l l.length (Nat.le_refl _)
  rwa [List.take_length] at this
end Go.Proofs.YtflbmccjfnkflaaDoor.Pure
