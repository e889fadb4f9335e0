/- The live blocks of chunks. -/
import Derived.Test.YtflbmccjfnkflaaDoorTileMade
import Derived.Test.YtflbmccjfnkflaaDoorQx15
import Derived.Test.YtflbmccjfnkflaaDoorQx16
import Derived.Test.YtflbmccjfnkflaaDoorQx13
set_option linter.unusedVariables false
set_option linter.unusedSimpArgs false
namespace Go.Proofs.YtflbmccjfnkflaaDoor.Pure
open Go.RowKit Go.Proofs.YtflbmccjfnkflaaDoor.Q Go.Proofs.YtflbmccjfnkflaaDoorW.PrintWords Go.Proofs.YtflbmccjfnkflaaDoorW.PrintLast Go.Proofs.YtflbmccjfnkflaaDoorW.PrintMore
theorem rdB (l : List Blk) (i : Nat) (h : i < l.length) : rd_T42 l (i : Int) = l[i] := by simp [rd_T42, h]
theorem blocks_ev (l : List Int) (hl : l.length ≤ 1048576) (hw : U64 l) : Ev (fun k => tile_Blocks.f k l) (blkAll (chV l).1) := by
  unfold tile_Blocks.f
  refine Ev.bind (chunks_ev l hl hw) ?_
  exact Ev.congr (fun k => by rw [if_pos (Nat.le_trans (chV_len l) hl)]) (ev_some _)
theorem sameB_l0 (a b : List Blk) (hm : a.length ≤ 1048576) (e : a = b) : ∀ (d i : Nat), a.length - i = d → i ≤ a.length → Ev (fun k => lockfastref11_Same.l0 k a b (i : Int)) true := by
  subst e
  intro d
  induction d with
  | zero =>
    intro i hd hi
    obtain rfl : i = a.length := by omega
    exact ev_next (f := fun _ => some true) (fun k => by simp only [lockfastref11_Same.l0]; rw [if_neg (by omega)]) (ev_some true)
  | succ d ih =>
    intro i hd hi
    have ha : i < a.length := by omega
    refine ev_next (f := fun k => lockfastref11_Same.l0 k a a ((i + 1 : Nat) : Int)) (fun k => ?_) (ih (i + 1) (by omega) (by omega))
    simp only [lockfastref11_Same.l0]
    rw [if_pos (by omega), if_pos (by omega), if_pos (by omega), if_neg (by simp), w64 (by omega)]
    rfl
theorem sameB_ev (a b : List Blk) (hm : a.length ≤ 1048576) (e : a = b) : Ev (fun k => lockfastref11_Same.f k a b) true := by
  have h1 := sameB_l0 a b hm e a.length 0 (by omega) (by omega)
  exact Ev.congr (f := fun k => lockfastref11_Same.l0 k a b 0) (fun k => by simp only [lockfastref11_Same.f]; rw [if_pos (by rw [e])]) (by simpa using h1)
def shB (n : Nat) (b : Blk) : Blk := ⟨b.f0 + (n : Int), b.f1, b.f2⟩
/-- The blocks of chunks, the first of which is the a-th. -/
def blkFrom (a : Nat) (l : List Chk) : List Blk := (l.zipIdx a).flatMap fun p => blkOne p.2 p.1
theorem blkAll_from (l : List Chk) : blkAll l = blkFrom 0 l := rfl
theorem blkFrom_cons (a : Nat) (c : Chk) (l : List Chk) : blkFrom a (c :: l) = blkOne a c ++ blkFrom (a + 1) l := by
  simp [blkFrom]
theorem blkFrom_append (a : Nat) (l m : List Chk) : blkFrom a (l ++ m) = blkFrom a l ++ blkFrom (a + l.length) m := by
  simp [blkFrom, List.zipIdx_append]
theorem blkOne_sh (a n : Nat) (c : Chk) : blkOne (a + n) c = (blkOne a c).map (shB n) := by
  unfold blkOne huge
  rw [List.map_append]
  congr 1
  · split
    · simp [shB]
    · rfl
  · rw [List.map_map]
    refine List.map_congr_left ?_
    intro k _
    simp [mkB, shB]
theorem blkFrom_sh (l : List Chk) : ∀ a n : Nat, blkFrom (a + n) l = (blkFrom a l).map (shB n) := by
  induction l with
  | nil => intro a n; rfl
  | cons c l ih =>
    intro a n
    rw [blkFrom_cons, blkFrom_cons, List.map_append, blkOne_sh, show a + n + 1 = (a + 1) + n by omega, ih]
theorem blkAll_append (l m : List Chk) : blkAll (l ++ m) = blkAll l ++ (blkAll m).map (shB l.length) := by
  rw [blkAll_from, blkFrom_append, blkFrom_sh m 0 l.length]; rfl
theorem blkOne_at (a : Nat) (c : Chk) : ∀ b ∈ blkOne a c, b.f0 = (a : Int) := by
  intro b hb
  unfold blkOne huge at hb
  rcases List.mem_append.1 hb with hb | hb
  · split at hb
    · rw [List.mem_singleton] at hb; subst hb; rfl
    · cases hb
  · obtain ⟨k, _, rfl⟩ := List.mem_map.1 hb; rfl
theorem blkFrom_at (l : List Chk) : ∀ a : Nat, ∀ b ∈ blkFrom a l, (a : Int) ≤ b.f0 ∧ b.f0 < ((a + l.length : Nat) : Int) := by
  induction l with
  | nil => intro a b hb; simp [blkFrom] at hb
  | cons c l ih =>
    intro a b hb
    rw [blkFrom_cons] at hb
    rcases List.mem_append.1 hb with hb | hb
    · have := blkOne_at a c b hb
      rw [List.length_cons]; omega
    · have := ih (a + 1) b hb
      rw [List.length_cons]; omega
theorem blkAll_len (l : List Chk) : (blkAll l).length ≤ 9 * l.length := by
  have := blkAll_take_len l l.length (Nat.le_refl _)
  rwa [List.take_length] at this
end Go.Proofs.YtflbmccjfnkflaaDoor.Pure
