import Derived.Test.YtflbmccjfnkflaaDoorStTileTells
import Derived.Test.YtflbmccjfnkflaaDoorTileTell
set_option linter.unusedVariables false
set_option linter.unusedSimpArgs false
namespace Go.Proofs.YtflbmccjfnkflaaDoor.Pure
open Go.RowKit Go.Proofs.YtflbmccjfnkflaaDoor.Q Go.Proofs.YtflbmccjfnkflaaDoorW.PrintWords Go.Proofs.YtflbmccjfnkflaaDoorW.PrintLast
theorem awake_20 : lockfastlaw11_awake.f 20 = some true := by decide +kernel
theorem awake_ev : Ev (fun k => lockfastlaw11_awake.f k) true := Ev.of (fun k => lockfastlaw11_awake.mono k) awake_20
theorem TileTells : lockfastlaw11_TileTells.Fact := by
  intro l lane hl hl2 hu _
  suffices H : Ev (fun k => lockfastlaw11_TileTells.f k l lane) true from H.rounds
  unfold lockfastlaw11_TileTells.f
  refine Ev.bind awake_ev ?_
  by_cases h60 : (l.length : Int) > 60
  · exact Ev.congr (f := fun _ => some true) (fun k => by rw [if_pos h60]) (ev_some _)
  · refine Ev.congr (fun k => by rw [if_neg h60]) ?_
    obtain ⟨cs, htab, hlen, hmade⟩ := made_ev l 40 (by omega) (by omega) (fun x hx => u16_range (hu x hx))
    refine Ev.bind hmade ?_
    have hU := U64_enc cs htab.ok
    have hL : (cs.map encC).length ≤ 40 := by rw [List.length_map]; omega
    have hch := chV_enc cs htab.ok
    refine Ev.congr (fun k => by rw [if_pos (by trivial)]) ?_
    have hR : rightV (cs.map encC) = true := by unfold rightV; rw [hch]; simp [htab.right]
    refine Ev.bind (ev_eq (right_ev _ (by omega) hU) hR) ?_
    refine Ev.congr (fun k => by rw [if_pos (by trivial)]) ?_
    refine Ev.bind (blocks_ev _ (by omega) hU) (Ev.bind (refBlocks_ev _ (by omega) hU) ?_)
    rw [hch]
    have hB := blkAll_len cs
    rw [List.length_map] at hL
    refine Ev.bind (sameB_ev _ _ (by show (blkAll cs).length ≤ 1048576; omega) rfl) ?_
    refine Ev.congr (fun k => by rw [if_pos (by trivial)]) ?_
    have hL' : (cs.map encC).length ≤ 40 := by rw [List.length_map]; omega
    refine Ev.bind (rows_ev _ (by omega) hU) (Ev.bind (refRows_ev _ (by omega) hU) ?_)
    have hG := rowsG_len (chV (cs.map encC)).1 0 0
    have hG2 := chV_len (cs.map encC)
    refine Ev.bind (sameS_ev _ (by show (rowsG 0 0 _).length ≤ _; omega)) ?_
    refine Ev.congr (fun k => by rw [if_pos (by trivial)]) ?_
    refine Ev.bind (logs_ev _ lane hL' hU) (Ev.bind (refLogs_ev _ lane (by omega) hU) ?_)
    have hI := logIdx_len (chV (cs.map encC)).1 lane
    refine Ev.bind (ints_ev _ (by rw [logsOf_len]; omega)) ?_
    exact ev_some _
end Go.Proofs.YtflbmccjfnkflaaDoor.Pure
