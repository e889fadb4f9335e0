-- Written by lfprint.py of this session's own, by way of the kit's print.py; with hand-made contracts.
import Derived.Test.YtflbmccjfnkflaaDoorStable
import Derived.Shelf.SlSortCmp.Kit1
import Derived.Sort.WalkA
import Derived.Sort.WalkB2
import Derived.Sort.WalkB12
import Derived.Deep.LoopGhost
import Derived.KernelRfl
import Derived.Lib.Hide
import Derived.WalkKit
import Derived.Outline
import Derived.Test.YtflbmccjfnkflaaDoorQx0
import Derived.Test.YtflbmccjfnkflaaDoorQx22
namespace Go.Proofs.YtflbmccjfnkflaaDoor.Q
open Go.RowKit Go.Proofs.YtflbmccjfnkflaaDoorW.PrintWords Go.Proofs.YtflbmccjfnkflaaDoorW.PrintLast Go.Proofs.YtflbmccjfnkflaaDoorW.PrintMore
attribute [local go_sem] max2_int min2_int max_two min_two max_three min_three max_four min_four   -- for this text's walks alone
set_option linter.unusedVariables false
set_option linter.unusedSimpArgs false

open Go.Shelf Go.RowKit Go.Lib Go.Sort Go.Proofs.YtflbmccjfnkflaaDoor.StableSort
set_option linter.unusedVariables false
set_option maxHeartbeats 16000000 in
set_option maxRecDepth 1000000 in
theorem st_sym1 {α : Type} [Inhabited α] (enc : α → Value) (cf : α → α → Int) (g : Nat) (cb : Array Value) (blk off cap a m b : Nat) (d0 d : Array α) (w0 w : World)
    (eg : ∀ args w, (callFunc g args).run Tryd.prog w = .ok (.enter g args) w) (hcmp : CmpLays1 Tryd.prog g cb enc cf blk off d0.size w0) (R : Row1 enc w0 blk off d0) (hs : d0.size = d.size) (S : SW enc w0 blk off d w) (hma : m = a + 1) (hmb : m < b) (hb : b ≤ d.size) (hsz : d.size < 4611686018427387904) :
    Calls Tryd.prog 112 #[.slice (some ⟨blk, off, none⟩) d.size cap, .int .i64 a, .int .i64 m, .int .i64 b, .func (.func g) #[] cb] w fun e w' => e = .returned (.tuple #[]) ∧ SW enc w0 blk off (shU (bs (fun h => ltOf cf d[h]! d[a]!) m b - 1) a d) w' := by
  have mixed : Tryd.prog.follows .mixedOrders = true := by kernel_rfl
  have hcl0 := R.hO.cells
  simp only [Value.cells] at hcl0
  have hst := R.hO.store Tryd.prog
  have HC : Aside _ := hcmp
  have S0 : Aside (SW enc w0 blk off d w) := S
  clear S
  clear hcmp
  have h1 : ((m : Int) - (a : Int) == 1) = true := by simp; omega
  have HMA := Lib.hid hma
  have ham : a < m := by omega
  clear hma
  go_enter Tryd.func112, Tryd.ntmps112
  go_wp2_with fail
  go_loopg [10, 11] b (fun g1 vi vj wr => ∃ (i j : Nat), vi = .int .i64 i ∧ vj = .int .i64 j ∧ m ≤ i ∧ i ≤ j ∧ j ≤ b ∧ j - i ≤ g1 ∧ Aside (SW enc w0 blk off d wr) ∧ Hid (bs (fun h => ltOf cf d[h]! d[a]!) i j = bs (fun h => ltOf cf d[h]! d[a]!) m b))
  case atStart => exact ⟨m, b, rfl, rfl, by omega, by omega, by omega, by omega, S0, rfl⟩
  case round =>
    clear S0
    obtain ⟨i, j, rfl, rfl, hmi, hij, hjb, hg1, S1, HO⟩ := hrel
    by_cases hlt : i < j
    · have hltz : (i : Int) < (j : Int) := by omega
      go_wp2_with fail
      obtain ⟨h, hh⟩ : ∃ h, h = (i + j) / 2 := ⟨_, rfl⟩
      have eh : ((i : Int) + (j : Int)) / 2 = (h : Int) := by omega
      rw [eh]
      have hib : i ≤ h ∧ h < j := by omega
      have HH := Lib.hid hh
      have EH := Lib.hid eh
      clear hh eh
      have b1 : (h : Int) < (d.size : Int) := by omega
      have b2 : (a : Int) < (d.size : Int) := by omega
      obtain ⟨x, hx⟩ : ∃ x, x = d[h]! := ⟨_, rfl⟩
      obtain ⟨y, hy⟩ : ∃ x, x = d[a]! := ⟨_, rfl⟩
      have l1 := S1.out.cl R (by omega) h (by omega)
      have l2 := S1.out.cl R (by omega) a (by omega)
      rw [← hx] at l1
      rw [← hy] at l2
      have hc := S1.out.cmp HC.out (by omega) x y
      cases hlv : (ltOf cf) d[h]! d[a]! with
      | true =>
        have hv : cf x y < 0 := by rw [hx, hy]; exact of_decide_eq_true hlv
        have hd : decide (cf x y < 0) = true := decide_eq_true hv
        have HO2 : Hid (bs (fun h => ltOf cf d[h]! d[a]!) (h + 1) j = bs (fun h => ltOf cf d[h]! d[a]!) m b) := by
          show _ = _
          rw [← HO.out, bs_go_yes _ i j hlt (by rw [← HH.out]; exact hlv), HH.out]
        clear hx hy
        go_quiet_grown (first | (go_at_fn g; refine Calls.grown_of (hc _ _)))
        have S2 : Aside (SW enc w0 blk off d (grow (wr.drewN nq) osq)) := S1.out.grown nq osq
        clear l1 l2 hc S1
        generalize grow (wr.drewN nq) osq = w2 at S2 ⊢
        clear nq osq
        go_wp2_with fail
        go_roundg (j - (h + 1))
        case measure => omega
        case rel => exact ⟨h + 1, j, by go_num, rfl, by omega, by omega, by omega, by omega, S2, HO2⟩
      | false =>
        have hv : ¬ cf x y < 0 := by rw [hx, hy]; exact of_decide_eq_false hlv
        have hd : decide (cf x y < 0) = false := decide_eq_false hv
        have HO2 : Hid (bs (fun h => ltOf cf d[h]! d[a]!) i h = bs (fun h => ltOf cf d[h]! d[a]!) m b) := by
          show _ = _
          rw [← HO.out, bs_go_no _ i j hlt (by rw [← HH.out]; exact hlv), HH.out]
        clear hx hy
        go_quiet_grown (first | (go_at_fn g; refine Calls.grown_of (hc _ _)))
        have S2 : Aside (SW enc w0 blk off d (grow (wr.drewN nq) osq)) := S1.out.grown nq osq
        clear l1 l2 hc S1
        generalize grow (wr.drewN nq) osq = w2 at S2 ⊢
        clear nq osq
        go_wp2_with fail
        go_roundg (h - i)
        case measure => omega
        case rel => exact ⟨i, h, rfl, rfl, by omega, by omega, by omega, by omega, S2, HO2⟩
    · have hltz : ¬ (i : Int) < (j : Int) := by omega
      have hi : bs (fun h => ltOf cf d[h]! d[a]!) m b = i := by rw [← HO.out, bs_stop _ _ _ hlt]
      have HI := Lib.hid hi
      clear HO hi
      go_wp2_with fail
      have him : (1 : Int) ≤ (i : Int) := by omega
      go_loopg [13] (i) (fun g2 vk wr2 => ∃ (k : Nat) (dk : Array α), vk = .int .i64 k ∧ a ≤ k ∧ k ≤ i - 1 ∧ i - 1 - k ≤ g2 ∧ dk.size = d.size ∧ Aside (SW enc w0 blk off dk wr2) ∧ Hid (shU (i - 1) k dk = shU (i - 1) a d))
      case atStart => exact ⟨a, d, rfl, by omega, by omega, by omega, rfl, S1, rfl⟩
      case round =>
        clear S1
        obtain ⟨k, dk, rfl, hak, hki, hg2, hsk, SK, HK⟩ := hrel
        by_cases hkl : k < i - 1
        · have hkz : (k : Int) < (i : Int) - 1 := by omega
          have b1 : (k : Int) + 1 < (d.size : Int) := by omega
          have b2 : (k : Int) < (d.size : Int) := by omega
          obtain ⟨x, hx⟩ : ∃ x, x = dk[k]! := ⟨_, rfl⟩
          obtain ⟨y, hy⟩ : ∃ x, x = dk[k + 1]! := ⟨_, rfl⟩
          have S3 : Aside (SW enc w0 blk off (swp dk k (k + 1)) ((wr.setCell ⟨blk, off + k, none⟩ (enc y)).setCell ⟨blk, off + (k + 1), none⟩ (enc x)).drew) := by rw [hx, hy]; exact SK.out.swapped R k (k + 1) (by omega) (by omega)
          have c1 := SK.out.c1 R (by omega) k (by omega)
          have c2 := SK.out.c1 R (by omega) (k + 1) (by omega)
          have f1 := SK.out.f1 R (by omega) k (by omega)
          have f2 := SK.out.f1 R (by omega) (k + 1) (by omega)
          obtain ⟨u, c3⟩ := SK.out.c2 R (by omega) k (k + 1) (by omega) (by omega) (enc y)
          rw [← hx] at c1
          rw [← hy] at c2
          clear SK hx hy
          go_wp2_with fail
          go_big_region
          clear c1 c2 c3 f1 f2
          generalize ((wr.setCell ⟨blk, off + k, none⟩ (enc y)).setCell ⟨blk, off + (k + 1), none⟩ (enc x)).drew = w3 at S3 ⊢
          go_wp2_with fail
          go_roundg (i - 1 - (k + 1))
          case measure => omega
          case rel => exact ⟨k + 1, swp dk k (k + 1), by go_num, by omega, by omega, by omega, by rw [size_swp]; exact hsk, S3, (show Hid _ from by rw [← HK.out, shU_go (i - 1) k dk hkl]; exact rfl)⟩
        · have hkz : ¬ (k : Int) < (i : Int) - 1 := by omega
          go_wp2_with fail
          refine bodyPost_ret (results_none rfl _ _ _) rfl ?_
          exact ⟨rfl, SW.re SK.out (by rw [HI.out, ← HK.out, shU_stop _ _ _ hkl])⟩
set_option maxHeartbeats 16000000 in
set_option maxRecDepth 1000000 in
theorem st_sym2 {α : Type} [Inhabited α] (enc : α → Value) (cf : α → α → Int) (g : Nat) (cb : Array Value) (blk off cap a m b : Nat) (d0 d : Array α) (w0 w : World)
    (eg : ∀ args w, (callFunc g args).run Tryd.prog w = .ok (.enter g args) w) (hcmp : CmpLays1 Tryd.prog g cb enc cf blk off d0.size w0) (R : Row1 enc w0 blk off d0) (hs : d0.size = d.size) (S : SW enc w0 blk off d w) (ham : a < m) (hma : m ≠ a + 1) (hmb : b = m + 1) (hb : b ≤ d.size) (hsz : d.size < 4611686018427387904) :
    Calls Tryd.prog 112 #[.slice (some ⟨blk, off, none⟩) d.size cap, .int .i64 a, .int .i64 m, .int .i64 b, .func (.func g) #[] cb] w fun e w' => e = .returned (.tuple #[]) ∧ SW enc w0 blk off (shD (bs (fun h => !ltOf cf d[m]! d[h]!) a m) m d) w' := by
  have mixed : Tryd.prog.follows .mixedOrders = true := by kernel_rfl
  have hcl0 := R.hO.cells
  simp only [Value.cells] at hcl0
  have hst := R.hO.store Tryd.prog
  have HC : Aside _ := hcmp
  have S0 : Aside (SW enc w0 blk off d w) := S
  clear S
  clear hcmp
  have h1 : ((m : Int) - (a : Int) == 1) = false := by simp; omega
  have h2 : ((b : Int) - (m : Int) == 1) = true := by simp; omega
  have HMB := Lib.hid hmb
  have hmb' : m < b := by omega
  clear hmb hma
  go_enter Tryd.func112, Tryd.ntmps112
  go_wp2_with fail
  go_loopg [14, 15] m (fun g1 vi vj wr => ∃ (i j : Nat), vi = .int .i64 i ∧ vj = .int .i64 j ∧ a ≤ i ∧ i ≤ j ∧ j ≤ m ∧ j - i ≤ g1 ∧ Aside (SW enc w0 blk off d wr) ∧ Hid (bs (fun h => !ltOf cf d[m]! d[h]!) i j = bs (fun h => !ltOf cf d[m]! d[h]!) a m))
  case atStart => exact ⟨a, m, rfl, rfl, by omega, by omega, by omega, by omega, S0, rfl⟩
  case round =>
    clear S0
    obtain ⟨i, j, rfl, rfl, hai, hij, hjm, hg1, S1, HO⟩ := hrel
    by_cases hlt : i < j
    · have hltz : (i : Int) < (j : Int) := by omega
      go_wp2_with fail
      obtain ⟨h, hh⟩ : ∃ h, h = (i + j) / 2 := ⟨_, rfl⟩
      have eh : ((i : Int) + (j : Int)) / 2 = (h : Int) := by omega
      rw [eh]
      have hib : i ≤ h ∧ h < j := by omega
      have HH := Lib.hid hh
      have EH := Lib.hid eh
      clear hh eh
      have b1 : (h : Int) < (d.size : Int) := by omega
      have b2 : (m : Int) < (d.size : Int) := by omega
      obtain ⟨x, hx⟩ : ∃ x, x = d[m]! := ⟨_, rfl⟩
      obtain ⟨y, hy⟩ : ∃ x, x = d[h]! := ⟨_, rfl⟩
      have l1 := S1.out.cl R (by omega) m (by omega)
      have l2 := S1.out.cl R (by omega) h (by omega)
      rw [← hx] at l1
      rw [← hy] at l2
      have hc := S1.out.cmp HC.out (by omega) x y
      cases hlv : (ltOf cf) d[m]! d[h]! with
      | false =>
        have hv : ¬ cf x y < 0 := by rw [hx, hy]; exact of_decide_eq_false hlv
        have hd : decide (cf x y < 0) = false := decide_eq_false hv
        have HO2 : Hid (bs (fun h => !ltOf cf d[m]! d[h]!) (h + 1) j = bs (fun h => !ltOf cf d[m]! d[h]!) a m) := by
          show _ = _
          rw [← HO.out, bs_go_yes _ i j hlt (by rw [← HH.out]; simp only [hlv]; rfl), HH.out]
        clear hx hy
        go_quiet_grown (first | (go_at_fn g; refine Calls.grown_of (hc _ _)))
        have S2 : Aside (SW enc w0 blk off d (grow (wr.drewN nq) osq)) := S1.out.grown nq osq
        clear l1 l2 hc S1
        generalize grow (wr.drewN nq) osq = w2 at S2 ⊢
        clear nq osq
        go_wp2_with fail
        go_roundg (j - (h + 1))
        case measure => omega
        case rel => exact ⟨h + 1, j, by go_num, rfl, by omega, by omega, by omega, by omega, S2, HO2⟩
      | true =>
        have hv : cf x y < 0 := by rw [hx, hy]; exact of_decide_eq_true hlv
        have hd : decide (cf x y < 0) = true := decide_eq_true hv
        have HO2 : Hid (bs (fun h => !ltOf cf d[m]! d[h]!) i h = bs (fun h => !ltOf cf d[m]! d[h]!) a m) := by
          show _ = _
          rw [← HO.out, bs_go_no _ i j hlt (by rw [← HH.out]; simp only [hlv]; rfl), HH.out]
        clear hx hy
        go_quiet_grown (first | (go_at_fn g; refine Calls.grown_of (hc _ _)))
        have S2 : Aside (SW enc w0 blk off d (grow (wr.drewN nq) osq)) := S1.out.grown nq osq
        clear l1 l2 hc S1
        generalize grow (wr.drewN nq) osq = w2 at S2 ⊢
        clear nq osq
        go_wp2_with fail
        go_roundg (h - i)
        case measure => omega
        case rel => exact ⟨i, h, rfl, rfl, by omega, by omega, by omega, by omega, S2, HO2⟩
    · have hltz : ¬ (i : Int) < (j : Int) := by omega
      have hi : bs (fun h => !ltOf cf d[m]! d[h]!) a m = i := by rw [← HO.out, bs_stop _ _ _ hlt]
      have HI := Lib.hid hi
      clear HO hi
      go_wp2_with fail
      go_loopg [17] (m) (fun g2 vk wr2 => ∃ (k : Nat) (dk : Array α), vk = .int .i64 k ∧ i ≤ k ∧ k ≤ m ∧ k ≤ g2 ∧ dk.size = d.size ∧ Aside (SW enc w0 blk off dk wr2) ∧ Hid (shD i k dk = shD i m d))
      case atStart => exact ⟨m, d, rfl, by omega, by omega, by omega, rfl, S1, rfl⟩
      case round =>
        clear S1
        obtain ⟨k, dk, rfl, hik, hkm, hg2, hsk, SK, HK⟩ := hrel
        by_cases hkl : i < k
        · obtain ⟨kp, rfl⟩ : ∃ q, k = q + 1 := ⟨k - 1, by omega⟩
          have hkd : (i : Int) < (kp : Int) + 1 := by omega
          have hkz : ((kp + 1 : Nat) : Int) = (kp : Int) + 1 := by omega
          rw [hkz]
          have HKZ := Lib.hid hkz
          clear hkz
          have b1 : (kp : Int) + 1 < (d.size : Int) := by omega
          have b2 : (kp : Int) < (d.size : Int) := by omega
          obtain ⟨x, hx⟩ : ∃ x, x = dk[kp + 1]! := ⟨_, rfl⟩
          obtain ⟨y, hy⟩ : ∃ x, x = dk[kp]! := ⟨_, rfl⟩
          have S3 : Aside (SW enc w0 blk off (swp dk (kp + 1) kp) ((wr.setCell ⟨blk, off + (kp + 1), none⟩ (enc y)).setCell ⟨blk, off + kp, none⟩ (enc x)).drew) := by rw [hx, hy]; exact SK.out.swapped R (kp + 1) kp (by omega) (by omega)
          have c1 := SK.out.c1 R (by omega) (kp + 1) (by omega)
          have c2 := SK.out.c1 R (by omega) kp (by omega)
          have f1 := SK.out.f1 R (by omega) (kp + 1) (by omega)
          have f2 := SK.out.f1 R (by omega) kp (by omega)
          obtain ⟨u, c3⟩ := SK.out.c2 R (by omega) (kp + 1) kp (by omega) (by omega) (enc y)
          rw [← hx] at c1
          rw [← hy] at c2
          clear SK hx hy
          go_wp2_with fail
          go_big_region
          clear c1 c2 c3 f1 f2
          generalize ((wr.setCell ⟨blk, off + (kp + 1), none⟩ (enc y)).setCell ⟨blk, off + kp, none⟩ (enc x)).drew = w3 at S3 ⊢
          go_wp2_with fail
          go_roundg (kp)
          case measure => omega
          case rel => exact ⟨kp, swp dk (kp + 1) kp, by first | rfl | go_num | (congr 1; omega), by omega, by omega, Nat.le_refl _, by rw [size_swp]; exact hsk, S3, (show Hid _ from by rw [← HK.out, shD_go i (kp + 1) dk hkl]; exact rfl)⟩
        · have hkz : ¬ (i : Int) < (k : Int) := by omega
          go_wp2_with fail
          refine bodyPost_ret (results_none rfl _ _ _) rfl ?_
          exact ⟨rfl, SW.re SK.out (by rw [HI.out, ← HK.out, shD_stop _ _ _ hkl])⟩

end Go.Proofs.YtflbmccjfnkflaaDoor.Q
