-- Written by lfprint.py of this session's own, by way of the kit's print.py; with hand-made contracts.
import Derived.Test.YtflbmccjfnkflaaDoorStable
import Derived.Shelf.SlSortCmp.Kit1
import Derived.Sort.WalkA
import Derived.Sort.WalkB2
import Derived.Sort.WalkB12
import Derived.Deep.LoopGhost
import Derived.KernelRfl
import Derived.Lib.Hide
import Derived.WalkKit
import Derived.Outline
import Derived.Test.YtflbmccjfnkflaaDoorQx0
namespace Go.Proofs.YtflbmccjfnkflaaDoor.Q
open Go.RowKit Go.Proofs.YtflbmccjfnkflaaDoorW.PrintWords Go.Proofs.YtflbmccjfnkflaaDoorW.PrintLast Go.Proofs.YtflbmccjfnkflaaDoorW.PrintMore
attribute [local go_sem] max2_int min2_int max_two min_two max_three min_three max_four min_four   -- for this text's walks alone
set_option linter.unusedVariables false
set_option linter.unusedSimpArgs false

open Go.Shelf Go.RowKit Go.Lib Go.Sort Go.Proofs.YtflbmccjfnkflaaDoor.StableSort
set_option linter.unusedVariables false
set_option maxHeartbeats 16000000 in
set_option maxRecDepth 1000000 in
theorem st_insertion {α : Type} [Inhabited α] (enc : α → Value) (cf : α → α → Int) (g : Nat) (cb : Array Value) (blk off cap a b : Nat) (d0 d : Array α) (w0 w : World)
    (eg : ∀ args w, (callFunc g args).run Tryd.prog w = .ok (.enter g args) w) (hcmp : CmpLays1 Tryd.prog g cb enc cf blk off d0.size w0) (R : Row1 enc w0 blk off d0) (hs : d0.size = d.size) (S : SW enc w0 blk off d w) (hab : a ≤ b) (hb : b ≤ d.size) (hsz : d.size < 4611686018427387904) :
    Calls Tryd.prog 111 #[.slice (some ⟨blk, off, none⟩) d.size cap, .int .i64 a, .int .i64 b, .func (.func g) #[] cb] w fun e w' => e = .returned (.tuple #[]) ∧ SW enc w0 blk off (Sort.insertionSort (ltOf cf) d a b) w' := by
  have mixed : Tryd.prog.follows .mixedOrders = true := by kernel_rfl
  have hcl0 := R.hO.cells
  simp only [Value.cells] at hcl0
  have hst := R.hO.store Tryd.prog
  have HC : Aside _ := hcmp
  have S0 : Aside (SW enc w0 blk off d w) := S
  clear S
  clear hcmp
  go_enter Tryd.func111, Tryd.ntmps111
  go_wp2
  go_loopg [8] (b - a) (fun g1 vi wr => ∃ (i : Nat) (dk : Array α), vi = .int .i64 i ∧ a < i ∧ i ≤ b + 1 ∧ b + 1 - i ≤ g1 + 1 ∧ dk.size = d.size ∧ Aside (SW enc w0 blk off dk wr) ∧ Hid (insOuter (ltOf cf) a b i dk = insOuter (ltOf cf) a b (a + 1) d))
  case atStart => exact ⟨a + 1, d, by go_num, by omega, by omega, by omega, rfl, S0, rfl⟩
  case round =>
    clear S0
    obtain ⟨i, dk, rfl, hai, hib, hg1, hsk, S1, HO⟩ := hrel
    by_cases hlt : i < b
    · have hltz : (i : Int) < (b : Int) := by omega
      go_wp2
      -- the inner loop
      go_loopg [9] i (fun g2 vj wr2 => ∃ (j : Nat) (dj : Array α), vj = .int .i64 j ∧ a ≤ j ∧ j ≤ i ∧ j ≤ g2 ∧ dj.size = d.size ∧ Aside (SW enc w0 blk off dj wr2) ∧ Hid (insInner (ltOf cf) a j dj = insInner (ltOf cf) a i dk))
      case atStart => exact ⟨i, dk, rfl, by omega, Nat.le_refl _, Nat.le_refl _, hsk, S1, rfl⟩
      case round =>
        clear S1
        obtain ⟨j, dj, rfl, haj, hji, hg2, hsj, SJ, HI⟩ := hrel
        have out : (j ≤ a ∨ (ltOf cf) dj[j]! dj[j - 1]! = false) → Hid (insOuter (ltOf cf) a b (i + 1) dj = insOuter (ltOf cf) a b (a + 1) d) := fun hs => by
          show _ = _
          rw [← HO.out, insOuter_go _ _ _ _ _ hlt, ← HI.out, insInner_stop _ _ _ _ hs]
        have OUT : Aside _ := out
        clear out
        by_cases hja : a < j
        · obtain ⟨jp, rfl⟩ : ∃ q, j = q + 1 := ⟨j - 1, by omega⟩
          have hjad : decide ((a : Int) < (jp : Int) + 1) = true := decide_eq_true (by omega)
          have hjaz' : (a : Int) < (jp : Int) + 1 := by omega
          have hjz : ((jp + 1 : Nat) : Int) = (jp : Int) + 1 := by omega
          rw [hjz]
          have bj : (jp : Int) + 1 < (d.size : Int) := by omega
          have bj1 : (jp : Int) < (d.size : Int) := by omega
          have p0 : (0 : Int) ≤ (jp : Int) + 1 := by omega
          have e0 : ((jp : Int) + 1).toNat = jp + 1 := by omega
          have hwp : IntKind.i64.wrap (jp : Int) = (jp : Int) := by rw [IntKind.wrap_i64]; omega
          have HJ := Lib.hid hjz
          clear hjz
          obtain ⟨x, hx⟩ : ∃ x, x = dj[jp + 1]! := ⟨_, rfl⟩
          obtain ⟨y, hy⟩ : ∃ x, x = dj[jp]! := ⟨_, rfl⟩
          have l1 := SJ.out.cl R (by omega) (jp + 1) (by omega)
          have l2 := SJ.out.cl R (by omega) jp (by omega)
          rw [← hx] at l1
          rw [← hy] at l2
          have hc := SJ.out.cmp HC.out (by omega) x y
          cases hlv : (ltOf cf) dj[jp + 1]! dj[jp]! with
          | true =>
            have hv : cf x y < 0 := by rw [hx, hy]; exact of_decide_eq_true hlv
            have hd : decide (cf x y < 0) = true := decide_eq_true hv
            have HX := Lib.hid hx
            have HY := Lib.hid hy
            clear hx hy
            go_wp2_with fail
            go_quiet_grown (first | (go_at_fn g; refine Calls.grown_of (hc _ _)))
            have S2 : Aside (SW enc w0 blk off dj (grow (wr.drewN nq) osq)) := SJ.out.grown nq osq
            clear l1 l2 hc SJ
            generalize grow (wr.drewN nq) osq = w2 at S2 ⊢
            clear nq osq
            go_wp2_with fail
            have S3 : Aside (SW enc w0 blk off (swp dj (jp + 1) jp) ((w2.setCell ⟨blk, off + (jp + 1), none⟩ (enc y)).setCell ⟨blk, off + jp, none⟩ (enc x)).drew) := by rw [HX.out, HY.out]; exact S2.out.swapped R (jp + 1) jp (by omega) (by omega)
            have c1 := S2.out.c1 R (by omega) (jp + 1) (by omega)
            have c2 := S2.out.c1 R (by omega) jp (by omega)
            have f1 := S2.out.f1 R (by omega) (jp + 1) (by omega)
            have f2 := S2.out.f1 R (by omega) jp (by omega)
            obtain ⟨u, c3⟩ := S2.out.c2 R (by omega) (jp + 1) jp (by omega) (by omega) (enc y)
            rw [← HX.out] at c1
            rw [← HY.out] at c2
            clear S2
            go_wp2_with fail
            go_big_region
            clear c1 c2 c3 f1 f2
            generalize ((w2.setCell ⟨blk, off + (jp + 1), none⟩ (enc y)).setCell ⟨blk, off + jp, none⟩ (enc x)).drew = w3 at S3 ⊢
            go_wp2
            go_roundg jp
            case measure => omega
            case rel => exact ⟨jp, swp dj (jp + 1) jp, by first | rfl | go_num | (congr 1; omega), by omega, by omega, Nat.le_refl _, by rw [size_swp]; exact hsj, S3, (show Hid _ from by rw [← HI.out, insInner_go (ltOf cf) a (jp + 1) dj hja hlv]; exact rfl)⟩
          | false =>
            have hv : ¬ cf x y < 0 := by rw [hx, hy]; exact of_decide_eq_false hlv
            have hd : decide (cf x y < 0) = false := decide_eq_false hv
            clear hx hy
            go_wp2_with fail
            go_quiet_grown (first | (go_at_fn g; refine Calls.grown_of (hc _ _)))
            have S2 : Aside (SW enc w0 blk off dj (grow (wr.drewN nq) osq)) := SJ.out.grown nq osq
            clear l1 l2 hc SJ
            generalize grow (wr.drewN nq) osq = w2 at S2 ⊢
            clear nq osq
            go_wp2
            go_roundg (b - (i + 1))
            case measure => omega
            case rel => exact ⟨i + 1, dj, by go_num, by omega, by omega, by omega, hsj, S2, OUT.out (Or.inr hlv)⟩
        · -- j = a: out of the inner loop (the guard is false: 'cmp' is not called)
          have hjaz : decide ((a : Int) < (j : Int)) = false := decide_eq_false (by omega)
          have hjaz' : ¬ (a : Int) < (j : Int) := by omega
          go_wp2_with fail
          go_big_region
          have S2 : Aside (SW enc w0 blk off dj wr.drew) := SJ.out.drew
          clear SJ
          generalize wr.drew = w2 at S2 ⊢
          go_wp2
          go_roundg (b - (i + 1))
          case measure => omega
          case rel => exact ⟨i + 1, dj, by go_num, by omega, by omega, by omega, hsj, S2, OUT.out (Or.inl (by omega))⟩
    · -- the outer loop is at its end
      have hltz : ¬ (i : Int) < (b : Int) := by omega
      go_wp2
      go_end0
      exact ⟨rfl, by unfold Sort.insertionSort; rw [← HO.out, insOuter_stop _ _ _ _ _ hlt]; exact S1.out⟩

end Go.Proofs.YtflbmccjfnkflaaDoor.Q
