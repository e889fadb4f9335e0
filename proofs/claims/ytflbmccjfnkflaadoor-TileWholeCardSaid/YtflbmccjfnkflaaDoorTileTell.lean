/- What the document tells of a table: blocks, rows, logs. -/
import Derived.Test.YtflbmccjfnkflaaDoorTileBlocks
import Derived.Test.YtflbmccjfnkflaaDoorTileRows
import Derived.Test.YtflbmccjfnkflaaDoorStable
import Derived.Test.YtflbmccjfnkflaaDoorQx29
set_option linter.unusedVariables false
set_option linter.unusedSimpArgs false
namespace Go.Proofs.YtflbmccjfnkflaaDoor.Pure
open Go.RowKit Go.Sort Go.Proofs.YtflbmccjfnkflaaDoor.StableSort Go.Proofs.YtflbmccjfnkflaaDoor.Q Go.Proofs.YtflbmccjfnkflaaDoorW.PrintWords Go.Proofs.YtflbmccjfnkflaaDoorW.PrintLast Go.Proofs.YtflbmccjfnkflaaDoorW.PrintMore
/-! rows -/
theorem rowsG_len (cs : List Chk) : ∀ i n : Nat, (rowsG i n cs).length ≤ cs.length + 1 := by
  induction cs with
  | nil => intro i n; unfold rowsG openR; split <;> simp
  | cons c cs ih =>
    intro i n
    rw [rowsG]
    split
    · have := ih (i + 1) (n + 1); simp; omega
    · have := ih (i + 1) 0
      have h : (openR i n).length ≤ 1 := by unfold openR; split <;> simp
      simp; omega
/-! equal lists -/
/-! logs -/
theorem logIdx_rise (xs : List Chk) (lane : Int) : (logIdx xs lane).Pairwise (· < ·) := by
  unfold logIdx
  rw [List.pairwise_map]
  refine List.Pairwise.filter _ ?_
  have h : (xs.zipIdx.map Prod.snd).Pairwise (· < ·) := by
    rw [List.zipIdx_map_snd]
    exact List.pairwise_lt_range'
  rw [List.pairwise_map] at h
  exact h.imp (fun h => by omega)
theorem logIdx_mem (xs : List Chk) (lane : Int) (z : Int) (hz : z ∈ logIdx xs lane) : ∃ i : Nat, ∃ h : i < xs.length, z = (i : Int) ∧ xs[i].f0 = 4 ∧ xs[i].f2 = lane := by
  unfold logIdx at hz
  obtain ⟨p, hp, rfl⟩ := List.mem_map.1 hz
  obtain ⟨h1, h2⟩ := List.mem_filter.1 hp
  have h3 := List.mem_zipIdx h1
  simp only [Bool.and_eq_true, beq_iff_eq] at h2
  refine ⟨p.2, by omega, rfl, ?_, ?_⟩
  · have := h3.2.2; simp only [Nat.sub_zero] at this; rw [← this]; exact h2.1
  · have := h3.2.2; simp only [Nat.sub_zero] at this; rw [← this]; exact h2.2
theorem logs_ev (l : List Int) (lane : Int) (hl : l.length ≤ 40) (hw : U64 l) : Ev (fun k => tile_Logs.f k l lane) (logsOf (chV l).1 lane) := by
  unfold tile_Logs.f
  refine Ev.bind (chunks_ev l (by omega) hw) ?_
  have h1 := chV_len l
  have h2 := logIdx_len (chV l).1 lane
  exact Ev.congr (fun k => by rw [if_pos ⟨by omega, by omega⟩]) (ev_some _)
/-! blocks -/
end Go.Proofs.YtflbmccjfnkflaaDoor.Pure
