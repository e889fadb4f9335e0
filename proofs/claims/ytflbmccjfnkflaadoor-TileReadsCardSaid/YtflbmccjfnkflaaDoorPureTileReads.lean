import Derived.Test.YtflbmccjfnkflaaDoorStTileReads
import Derived.Test.YtflbmccjfnkflaaDoorTileLib
import Derived.Test.YtflbmccjfnkflaaDoorTileAwake
set_option linter.unusedVariables false
set_option linter.unusedSimpArgs false
namespace Go.Proofs.YtflbmccjfnkflaaDoor.Pure
open Go.RowKit Go.Proofs.YtflbmccjfnkflaaDoor.Q Go.Proofs.YtflbmccjfnkflaaDoorW.PrintWords Go.Proofs.YtflbmccjfnkflaaDoorW.PrintLast
theorem reads_l0 (l : List Int) (hl : l.length ≤ 1048576) (hw : U64 l) (cs : List Chk) (hc : cs.length ≤ 1048576) : ∀ (d i : Nat), cs.length - i = d → i ≤ cs.length →
    Ev (fun k => lockfastlaw11_TileReads.l0 k l true cs cs (i : Int)) true := by
  intro d
  induction d with
  | zero =>
    intro i hd hi
    obtain rfl : i = cs.length := by omega
    refine Ev.step (fun k => by simp only [lockfastlaw11_TileReads.l0]; rw [if_neg (by omega), if_pos (by trivial)]) ?_
    refine Ev.bind (right_ev l hl hw) (Ev.bind (refRight_ev l hl hw) ?_)
    exact ev_eq (ev_some _) (by simp)
  | succ d ih =>
    intro i hd hi
    have hlt : i < cs.length := by omega
    refine ev_next (f := fun k => lockfastlaw11_TileReads.l0 k l true cs cs ((i + 1 : Nat) : Int)) (fun k => ?_) (ih (i + 1) (by omega) (by omega))
    simp only [lockfastlaw11_TileReads.l0]
    rw [if_pos (by omega), if_pos (by omega), if_pos (by omega), if_neg (by simp), w64 (by omega)]
    rfl
theorem TileReads : lockfastlaw11_TileReads.Fact := by
  intro l _ _ hw
  suffices h : Ev (fun k => lockfastlaw11_TileReads.f k l) true from h.rounds
  have hw : U64 l := fun x hx => u64_range (hw x hx)
  unfold lockfastlaw11_TileReads.f
  refine Ev.bind awake_ev ?_
  by_cases h1 : (l.length : Int) > 60
  · exact Ev.congr (fun k => by rw [if_pos h1]) (ev_some _)
  · refine Ev.congr (fun k => by rw [if_neg h1]) ?_
    have hl : l.length ≤ 1048576 := by omega
    refine Ev.bind (chunks_ev l hl hw) (Ev.bind (refChunks_ev l hl hw) ?_)
    refine Ev.congr (fun k => by rw [if_neg (by simp)]) ?_
    refine ev_next (f := fun k => lockfastlaw11_TileReads.l0 k l true (chV l).1 (chV l).1 0) (fun k => by simp only [lockfastlaw11_TileReads.j0]; rw [if_neg (by simp)]) ?_
    exact reads_l0 l hl hw (chV l).1 (Nat.le_trans (chV_len l) hl) _ 0 rfl (by omega)
end Go.Proofs.YtflbmccjfnkflaaDoor.Pure
