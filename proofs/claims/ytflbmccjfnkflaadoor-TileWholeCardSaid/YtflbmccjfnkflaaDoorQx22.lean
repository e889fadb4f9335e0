-- Written by lfprint.py of this session's own, by way of the kit's print.py; with hand-made contracts.
import Derived.Test.YtflbmccjfnkflaaDoorStable
import Derived.Shelf.SlSortCmp.Kit1
import Derived.Sort.WalkA
import Derived.Sort.WalkB2
import Derived.Sort.WalkB12
import Derived.Deep.LoopGhost
import Derived.KernelRfl
import Derived.Lib.Hide
import Derived.WalkKit
import Derived.Outline
import Derived.Test.YtflbmccjfnkflaaDoorQx0
namespace Go.Proofs.YtflbmccjfnkflaaDoor.Q
open Go.RowKit Go.Proofs.YtflbmccjfnkflaaDoorW.PrintWords Go.Proofs.YtflbmccjfnkflaaDoorW.PrintLast Go.Proofs.YtflbmccjfnkflaaDoorW.PrintMore
attribute [local go_sem] max2_int min2_int max_two min_two max_three min_three max_four min_four   -- for this text's walks alone
set_option linter.unusedVariables false
set_option linter.unusedSimpArgs false

open Go.Shelf Go.RowKit Go.Lib Go.Sort Go.Proofs.YtflbmccjfnkflaaDoor.StableSort
set_option linter.unusedVariables false
theorem SW.re {α : Type} [Inhabited α] {enc : α → Value} {w0 W : World} {blk off : Nat} {dk : Array α} (h : SW enc w0 blk off dk W) {d2 : Array α} (e : dk = d2) : SW enc w0 blk off d2 W := e ▸ h
set_option maxHeartbeats 16000000 in
set_option maxRecDepth 1000000 in
theorem st_swapRange {α : Type} [Inhabited α] (enc : α → Value) (fv : Value) (blk off cap a b n : Nat) (d0 d : Array α) (w0 w : World)
    (R : Row1 enc w0 blk off d0) (hs : d0.size = d.size) (S : SW enc w0 blk off d w) (ha : a + n ≤ d.size) (hb : b + n ≤ d.size) (hsz : d.size < 4611686018427387904) :
    Calls Tryd.prog 117 #[.slice (some ⟨blk, off, none⟩) d.size cap, .int .i64 a, .int .i64 b, .int .i64 n, fv] w fun e w' => e = .returned (.tuple #[]) ∧ SW enc w0 blk off (swpR a b n 0 d) w' := by
  have hcl0 := R.hO.cells
  simp only [Value.cells] at hcl0
  have hst := R.hO.store Tryd.prog
  have S0 : Aside (SW enc w0 blk off d w) := S
  clear S
  go_enter Tryd.func117, Tryd.ntmps117
  go_wp2
  go_loopg [10] (n) (fun g1 vi wr => ∃ (i : Nat) (dk : Array α), vi = .int .i64 i ∧ i ≤ n ∧ n - i ≤ g1 ∧ dk.size = d.size ∧ Aside (SW enc w0 blk off dk wr) ∧ Hid (swpR a b n i dk = swpR a b n 0 d))
  case atStart => exact ⟨0, d, by go_num, by omega, by omega, rfl, S0, rfl⟩
  case round =>
    clear S0
    obtain ⟨i, dk, rfl, hin, hg1, hsk, S1, HO⟩ := hrel
    by_cases hlt : i < n
    · have hltz : (i : Int) < (n : Int) := by omega
      have ba : (a : Int) + (i : Int) < (d.size : Int) := by omega
      have bc : (b : Int) + (i : Int) < (d.size : Int) := by omega
      obtain ⟨x, hx⟩ : ∃ x, x = dk[a + i]! := ⟨_, rfl⟩
      obtain ⟨y, hy⟩ : ∃ x, x = dk[b + i]! := ⟨_, rfl⟩
      have S3 : Aside (SW enc w0 blk off (swp dk (a + i) (b + i)) ((wr.setCell ⟨blk, off + (a + i), none⟩ (enc y)).setCell ⟨blk, off + (b + i), none⟩ (enc x)).drew) := by rw [hx, hy]; exact S1.out.swapped R (a + i) (b + i) (by omega) (by omega)
      have c1 := S1.out.c1 R (by omega) (a + i) (by omega)
      have c2 := S1.out.c1 R (by omega) (b + i) (by omega)
      have f1 := S1.out.f1 R (by omega) (a + i) (by omega)
      have f2 := S1.out.f1 R (by omega) (b + i) (by omega)
      obtain ⟨u, c3⟩ := S1.out.c2 R (by omega) (a + i) (b + i) (by omega) (by omega) (enc y)
      rw [← hx] at c1
      rw [← hy] at c2
      clear S1 hx hy
      go_wp2_with fail
      go_big_region
      clear c1 c2 c3 f1 f2
      generalize ((wr.setCell ⟨blk, off + (a + i), none⟩ (enc y)).setCell ⟨blk, off + (b + i), none⟩ (enc x)).drew = w3 at S3 ⊢
      clear ba bc
      go_wp2
      go_roundg (n - (i + 1))
      case measure => omega
      case rel => exact ⟨i + 1, swp dk (a + i) (b + i), by go_num, by omega, by omega, by rw [size_swp]; exact hsk, S3, (show Hid _ from by rw [← HO.out, swpR_go a b n i dk hlt]; exact rfl)⟩
    · have hltz : ¬ (i : Int) < (n : Int) := by omega
      go_wp2
      go_end0
      exact ⟨rfl, SW.re S1.out (by rw [← HO.out, swpR_stop _ _ _ _ _ hlt])⟩

end Go.Proofs.YtflbmccjfnkflaaDoor.Q
