import Derived.Test.YtflbmccjfnkflaaDoorStTileParts
import Derived.Test.YtflbmccjfnkflaaDoorTileBlocks
set_option linter.unusedVariables false
set_option linter.unusedSimpArgs false
namespace Go.Proofs.YtflbmccjfnkflaaDoor.Pure
open Go.RowKit Go.Proofs.YtflbmccjfnkflaaDoor.Q Go.Proofs.YtflbmccjfnkflaaDoorW.PrintWords Go.Proofs.YtflbmccjfnkflaaDoorW.PrintLast
theorem awake_20 : lockfastlaw11_awake.f 20 = some true := by decide +kernel
theorem awake_ev : Ev (fun k => lockfastlaw11_awake.f k) true := Ev.of (fun k => lockfastlaw11_awake.mono k) awake_20
theorem parts_l0 (t : List Int) (ht : t.length ≤ 1048576) (A B : List Blk) (hA : A.length ≤ 1048576) (hB : B.length ≤ 1048576) (hb : ∀ b ∈ B, 0 ≤ b.f0 ∧ b.f0 ≤ 1048576) : ∀ (d i : Nat), B.length - i = d → i ≤ B.length →
    Ev (fun k => lockfastlaw11_TileParts.l0 k true t A ((B.take i).map (shB t.length) ++ B.drop i) (A ++ B.map (shB t.length)) (i : Int)) true := by
  intro d
  induction d with
  | zero =>
    intro i hd hi
    obtain rfl : i = B.length := by omega
    rw [List.take_length, List.drop_length, List.append_nil]
    refine Ev.step (fun k => by simp only [lockfastlaw11_TileParts.l0]; rw [if_neg (by rw [List.length_map]; omega), if_pos (by trivial), if_pos (by omega), if_pos (by rw [List.length_append]; omega)]) ?_
    rw [Int.toNat_natCast, List.take_left, List.drop_left]
    refine Ev.bind (sameB_ev A A hA rfl) ?_
    refine Ev.congr (fun k => by rw [if_pos (by trivial)]) ?_
    exact Ev.bind (sameB_ev _ _ (by rw [List.length_map]; omega) rfl) (ev_some _)
  | succ d ih =>
    intro i hd hi
    have hlt : i < B.length := by omega
    have hbi := hb _ (List.getElem_mem hlt)
    have hlen : ((B.take i).map (shB t.length)).length = i := by rw [List.length_map, List.length_take]; omega
    have hr : rd_T42 ((B.take i).map (shB t.length) ++ B.drop i) (i : Int) = B[i] := by
      rw [rdB _ _ (by rw [List.length_append, hlen, List.length_drop]; omega)]
      rw [List.getElem_append_right (by omega), List.getElem_drop]
      congr 1; omega
    refine ev_next (fun k => ?_) (ih (i + 1) (by omega) (by omega))
    simp only [lockfastlaw11_TileParts.l0]
    rw [if_pos (by rw [List.length_append, hlen, List.length_drop]; omega), if_pos (by omega), hr, w64 (by omega), w64 (by omega), Int.toNat_natCast]
    have e : ((B.take i).map (shB t.length) ++ B.drop i).set i ⟨B[i].f0 + (t.length : Int), B[i].f1, B[i].f2⟩ = (B.take (i + 1)).map (shB t.length) ++ B.drop (i + 1) := by
      rw [List.set_append_right _ _ (by omega), hlen, Nat.sub_self, List.drop_eq_getElem_cons hlt, List.set_cons_zero, List.take_succ_eq_append_getElem hlt, List.map_append, List.append_assoc]
      rfl
    rw [e]
    rfl
theorem TileParts : lockfastlaw11_TileParts.Fact := by
  intro l m _ _ hu _ _ hv
  suffices h : Ev (fun k => lockfastlaw11_TileParts.f k l m) true from h.rounds
  have hu : ∀ x ∈ l, 0 ≤ x ∧ x ≤ 65535 := fun x hx => u16_range (hu x hx)
  have hv : ∀ x ∈ m, 0 ≤ x ∧ x ≤ 65535 := fun x hx => u16_range (hv x hx)
  unfold lockfastlaw11_TileParts.f
  refine Ev.bind awake_ev ?_
  have hstop : Ev (fun k => lockfastlaw11_TileParts.j0 k l m true true) true := ev_next (f := fun _ => some true) (fun k => by simp only [lockfastlaw11_TileParts.j0]; rw [if_pos (by trivial)]) (ev_some _)
  by_cases h1 : (l.length : Int) > 60
  · exact Ev.congr (fun k => by rw [if_pos h1]) hstop
  · refine Ev.congr (fun k => by rw [if_neg h1]) ?_
    by_cases h2 : (m.length : Int) > 60
    · rw [decide_eq_true h2]; exact hstop
    · rw [decide_eq_false h2]
      obtain ⟨cs, ht, hlen, hev⟩ := made_ev l 30 (by omega) (by omega) hu
      obtain ⟨ds, ht2, hlen2, hev2⟩ := made_ev m 30 (by omega) (by omega) hv
      have hU := U64_enc cs ht.ok
      have hU2 := U64_enc ds ht2.ok
      have hL : (cs.map encC).length ≤ 1048576 := by rw [List.length_map]; omega
      have hL2 : (ds.map encC).length ≤ 1048576 := by rw [List.length_map]; omega
      have hT := ht.append ht2
      have hb1 := blocks_ev _ hL hU
      have hb2 := blocks_ev _ hL2 hU2
      have hL3 : ((cs ++ ds).map encC).length ≤ 1048576 := by rw [List.length_map, List.length_append]; omega
      have hU3 := U64_enc (cs ++ ds) hT.ok
      have hb3 := blocks_ev _ hL3 hU3
      have hr3 := right_ev _ hL3 hU3
      have hrv : rightV ((cs ++ ds).map encC) = true := by unfold rightV; rw [chV_enc _ hT.ok]; exact hT.right
      rw [hrv] at hr3
      rw [chV_enc _ ht.ok] at hb1
      rw [chV_enc _ ht2.ok] at hb2
      rw [chV_enc _ hT.ok, List.map_append] at hb3
      rw [List.map_append] at hr3
      have hA := blkAll_len cs
      have hB := blkAll_len ds
      refine Ev.step (fun k => by simp only [lockfastlaw11_TileParts.j0]; rw [if_neg (by simp)]) ?_
      refine Ev.bind hev (Ev.bind hev2 (Ev.bind hb1 (Ev.bind hb2 ?_)))
      refine Ev.congr (fun k => by rw [Option.bind_some, if_pos (by simp; omega), Option.bind_some, if_pos (by simp; omega), List.nil_append]) ?_
      refine Ev.bind hb3 ?_
      have hlen3 : ((blkAll (cs ++ ds)).length : Int) = wrap64 ((blkAll cs).length + (blkAll ds).length) := by
        rw [blkAll_append, List.length_append, List.length_map, w64 (by omega)]; omega
      refine Ev.congr (fun k => by rw [if_pos hlen3, Option.bind_some, if_pos (by simp; omega), Option.bind_some, if_pos (by simp; omega), List.nil_append]) ?_
      refine Ev.bind hr3 ?_
      refine Ev.step (fun k => by simp only [lockfastlaw11_TileParts.j1]; rw [if_neg (by simp)]) ?_
      have hb : ∀ b ∈ blkAll ds, 0 ≤ b.f0 ∧ b.f0 ≤ 1048576 := fun b hb => by have := blkFrom_at ds 0 b hb; omega
      have h := parts_l0 (cs.map encC) hL (blkAll cs) (blkAll ds) (by omega) (by omega) hb _ 0 rfl (by omega)
      rw [List.take_zero, List.map_nil, List.nil_append, List.drop_zero, List.length_map] at h
      rw [blkAll_append]
      exact h
end Go.Proofs.YtflbmccjfnkflaaDoor.Pure
