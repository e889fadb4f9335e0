-- Written by lfprint.py of this session's own, by way of the kit's print.py; with hand-made contracts.
import Derived.Test.YtflbmccjfnkflaaDoorStable
import Derived.Shelf.SlSortCmp.Kit1
import Derived.Sort.WalkA
import Derived.Sort.WalkB2
import Derived.Sort.WalkB12
import Derived.Deep.LoopGhost
import Derived.KernelRfl
import Derived.Lib.Hide
import Derived.WalkKit
import Derived.Outline
import Derived.Test.YtflbmccjfnkflaaDoorQx0
import Derived.Test.YtflbmccjfnkflaaDoorQx22
namespace Go.Proofs.YtflbmccjfnkflaaDoor.Q
open Go.RowKit Go.Proofs.YtflbmccjfnkflaaDoorW.PrintWords Go.Proofs.YtflbmccjfnkflaaDoorW.PrintLast Go.Proofs.YtflbmccjfnkflaaDoorW.PrintMore
attribute [local go_sem] max2_int min2_int max_two min_two max_three min_three max_four min_four   -- for this text's walks alone
set_option linter.unusedVariables false
set_option linter.unusedSimpArgs false

open Go.Shelf Go.RowKit Go.Lib Go.Sort Go.Proofs.YtflbmccjfnkflaaDoor.StableSort
set_option linter.unusedVariables false
set_option maxHeartbeats 16000000 in
set_option maxRecDepth 1000000 in
theorem st_rotate {α : Type} [Inhabited α] (enc : α → Value) (fv : Value) (blk off cap a m b : Nat) (d0 d : Array α) (w0 w : World)
    (R : Row1 enc w0 blk off d0) (hs : d0.size = d.size) (S : SW enc w0 blk off d w) (ham : a < m) (hmb : m < b) (hb : b ≤ d.size) (hsz : d.size < 4611686018427387904) :
    Calls Tryd.prog 116 #[.slice (some ⟨blk, off, none⟩) d.size cap, .int .i64 a, .int .i64 m, .int .i64 b, fv] w fun e w' => e = .returned (.tuple #[]) ∧ SW enc w0 blk off (rotL m (m - a) (b - m) d) w' := by
  have S0 : Aside (SW enc w0 blk off d w) := S
  clear S
  have e1 : (m : Int) - (a : Int) = ((m - a : Nat) : Int) := by omega
  have e2 : (b : Int) - (m : Int) = ((b - m : Nat) : Int) := by omega
  have E1 := Lib.hid e1
  have E2 := Lib.hid e2
  clear e1 e2
  go_enter Tryd.func116, Tryd.ntmps116
  go_wp2
  rw [E1.out, E2.out]
  go_loopg [10, 11] (b) (fun g1 vi vj wr => ∃ (i j : Nat) (dk : Array α), vi = .int .i64 i ∧ vj = .int .i64 j ∧ 0 < i ∧ 0 < j ∧ i ≤ m ∧ m + j ≤ d.size ∧ i + j ≤ g1 ∧ dk.size = d.size ∧ Aside (SW enc w0 blk off dk wr) ∧ Hid (rotL m i j dk = rotL m (m - a) (b - m) d))
  case atStart => exact ⟨m - a, b - m, d, rfl, rfl, by omega, by omega, by omega, by omega, by omega, rfl, S0, rfl⟩
  case round =>
    clear S0
    obtain ⟨i, j, dk, rfl, rfl, hi, hj, him, hjm, hg1, hsk, S1, HO⟩ := hrel
    have hc := fun p q n W S h1 h2 => st_swapRange enc fv blk off cap p q n d0 dk w0 W R (by omega) S h1 h2 (by omega)
    rw [hsk] at hc
    have HC := Lib.hid hc
    clear hc
    have e3 : (m : Int) - (i : Int) = ((m - i : Nat) : Int) := by omega
    have E3 := Lib.hid e3
    clear e3
    have hmi : (0 : Int) ≤ (m : Int) - (i : Int) := by omega
    rcases Nat.lt_trichotomy i j with h | h | h
    · have hne : ((i : Int) != (j : Int)) = true := by simp; omega
      have hgt : ¬ (i : Int) > (j : Int) := by omega
      have e4 : (m : Int) + (j : Int) - (i : Int) = ((m + j - i : Nat) : Int) := by omega
      have E4 := Lib.hid e4
      clear e4
      go_wp2_with (go_at_call 117; rw [E3.out, E4.out]; refine (HC.out (m - i) (m + j - i) i _ S1.out (by omega) (by omega)).mono ?_; rintro e W2 ⟨rfl, S2⟩)
      have S2 : Aside _ := S2
      have e5 : (j : Int) - (i : Int) = ((j - i : Nat) : Int) := by omega
      go_roundg (i + (j - i))
      case measure => omega
      case rel => exact ⟨i, j - i, _, rfl, by rw [e5], by omega, by omega, by omega, by omega, by omega, by rw [(swpR_spec (m - i) (m + j - i) i (by omega) i 0 dk (by omega) (by omega) (by omega)).1]; exact hsk, S2, (show Hid _ from by rw [← HO.out, rotL_lt m i j dk hi h]; exact rfl)⟩
    · subst h
      have hne : ((i : Int) != (i : Int)) = false := by simp
      go_wp2_with (go_at_call 117; rw [E3.out]; refine (HC.out (m - i) m i _ S1.out (by omega) (by omega)).mono ?_; rintro e W2 ⟨rfl, S2⟩)
      go_end0
      exact ⟨rfl, SW.re S2 (by rw [← HO.out, rotL_eq m i i dk hi rfl])⟩
    · have hne : ((i : Int) != (j : Int)) = true := by simp; omega
      have hgt : (j : Int) < (i : Int) := by omega
      go_wp2_with (go_at_call 117; rw [E3.out]; refine (HC.out (m - i) m j _ S1.out (by omega) (by omega)).mono ?_; rintro e W2 ⟨rfl, S2⟩)
      have S2 : Aside _ := S2
      have e5 : (i : Int) - (j : Int) = ((i - j : Nat) : Int) := by omega
      go_roundg (i - j + j)
      case measure => omega
      case rel => exact ⟨i - j, j, _, by rw [e5], rfl, by omega, by omega, by omega, by omega, by omega, by rw [(swpR_spec (m - i) m j (by omega) j 0 dk (by omega) (by omega) (by omega)).1]; exact hsk, S2, (show Hid _ from by rw [← HO.out, rotL_gt m i j dk hj h]; exact rfl)⟩

end Go.Proofs.YtflbmccjfnkflaaDoor.Q
