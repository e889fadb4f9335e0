-- Written by lfprint.py of this session's own, by way of the kit's print.py; with hand-made contracts.
import Derived.Test.YtflbmccjfnkflaaDoorStable
import Derived.Shelf.SlSortCmp.Kit1
import Derived.Sort.WalkA
import Derived.Sort.WalkB2
import Derived.Sort.WalkB12
import Derived.Deep.LoopGhost
import Derived.KernelRfl
import Derived.Lib.Hide
import Derived.WalkKit
import Derived.Outline
import Derived.Test.YtflbmccjfnkflaaDoorQx0
import Derived.Test.YtflbmccjfnkflaaDoorQx22
import Derived.Test.YtflbmccjfnkflaaDoorQx24
import Derived.Test.YtflbmccjfnkflaaDoorQx26
namespace Go.Proofs.YtflbmccjfnkflaaDoor.Q
open Go.RowKit Go.Proofs.YtflbmccjfnkflaaDoorW.PrintWords Go.Proofs.YtflbmccjfnkflaaDoorW.PrintLast Go.Proofs.YtflbmccjfnkflaaDoorW.PrintMore
attribute [local go_sem] max2_int min2_int max_two min_two max_three min_three max_four min_four   -- for this text's walks alone
set_option linter.unusedVariables false
set_option linter.unusedSimpArgs false

open Go.Shelf Go.RowKit Go.Lib Go.Sort Go.Proofs.YtflbmccjfnkflaaDoor.StableSort
set_option linter.unusedVariables false
/-- The blocks of twenty, each sorted by itself. -/
def blocks20 {α : Type} [Inhabited α] (lt : α → α → Bool) : Nat → Array α → Array α
  | 0, d => d
  | t + 1, d => insertionSort lt (blocks20 lt t d) (20 * t) (20 * t + 20)
theorem blocks20_size {α : Type} [Inhabited α] (lt : α → α → Bool) (t : Nat) (d : Array α) : (blocks20 lt t d).size = d.size := by
  induction t with
  | zero => rfl
  | succ t ih => rw [blocks20, insertionSort_size, ih]
theorem insertion_none {α : Type} [Inhabited α] (lt : α → α → Bool) (d : Array α) (a : Nat) : insertionSort lt d a a = d := by
  unfold insertionSort
  rw [insOuter_stop _ _ _ _ _ (by omega)]
theorem blocks_le {α : Type} [Inhabited α] (lt : α → α → Bool) (d : Array α) (t : Nat) (h1 : 20 * t ≤ d.size) (h2 : ¬ 20 * t + 20 ≤ d.size) (h : d.size ≤ 20) : insertionSort lt (blocks20 lt t d) (20 * t) d.size = stab lt d := by
  unfold stab
  rw [if_pos h]
  have : t = 0 ∨ t = 1 := by omega
  rcases this with rfl | rfl
  · rfl
  · have : d.size = 20 := by omega
    rw [this]
    show insertionSort lt (insertionSort lt d 0 20) 20 20 = _
    rw [insertion_none]
theorem blocks_gt {α : Type} [Inhabited α] (lt : α → α → Bool) (d : Array α) (t : Nat) (h1 : 20 * t ≤ d.size) (h2 : ¬ 20 * t + 20 ≤ d.size) (h : ¬ d.size ≤ 20) (h4 : d.size ≤ 40) : symM lt d.size 0 20 d.size (insertionSort lt (blocks20 lt t d) (20 * t) d.size) = stab lt d := by
  unfold stab
  rw [if_neg h]
  have : t = 1 ∨ t = 2 := by omega
  rcases this with rfl | rfl
  · rfl
  · have : d.size = 40 := by omega
    rw [this]
    show symM lt 40 0 20 40 (insertionSort lt (insertionSort lt (insertionSort lt d 0 20) 20 40) 40 40) = _
    rw [insertion_none]
set_option maxHeartbeats 16000000 in
set_option maxRecDepth 1000000 in
theorem st_stable {α : Type} [Inhabited α] (enc : α → Value) (cf : α → α → Int) (g : Nat) (cb : Array Value) (blk off cap : Nat) (d0 d : Array α) (w0 w : World)
    (eg : ∀ args w, (callFunc g args).run Tryd.prog w = .ok (.enter g args) w) (hcmp : CmpLays1 Tryd.prog g cb enc cf blk off d0.size w0) (R : Row1 enc w0 blk off d0) (hs : d0.size = d.size) (S : SW enc w0 blk off d w) (h40 : d.size ≤ 40) :
    Calls Tryd.prog 102 #[.slice (some ⟨blk, off, none⟩) d.size cap, .int .i64 d.size, .func (.func g) #[] cb] w fun e w' => e = .returned (.tuple #[]) ∧ SW enc w0 blk off (stab (ltOf cf) d) w' := by
  have hins := fun (a b : Nat) dk W (hk : dk.size = d.size) S h1 h2 => st_insertion enc cf g cb blk off cap a b d0 dk w0 W eg hcmp R (by omega) S h1 h2 (by omega)
  have HINS := Lib.hid hins
  have hsym := fun (a m b : Nat) dk W (hk : dk.size = d.size) S h1 h2 h3 h4 => st_sym enc cf g cb blk off cap d0 w0 eg hcmp R (by omega) d.size a m b dk W h4 h1 h2 h3 (by omega) S
  have HSYM := Lib.hid hsym
  have S0 : Aside (SW enc w0 blk off d w) := S
  clear S hins hsym hcmp eg
  go_enter Tryd.func102, Tryd.ntmps102
  go_wp2_with fail
  go_loopg [7, 8] 3 (fun g1 va vb wr => ∃ t : Nat, va = .int .i64 ((20 * t : Nat) : Int) ∧ vb = .int .i64 ((20 * t + 20 : Nat) : Int) ∧ 20 * t ≤ d.size ∧ 3 - t ≤ g1 ∧ Aside (SW enc w0 blk off (blocks20 (ltOf cf) t d) wr))
  case atStart => exact ⟨0, rfl, rfl, by omega, by omega, S0⟩
  case round =>
    clear S0
    obtain ⟨t, rfl, rfl, htn, hg1, S1⟩ := hrel
    have hsk := blocks20_size (ltOf cf) t d
    by_cases hlt : 20 * t + 20 ≤ d.size
    · have hltz : ((20 * t + 20 : Nat) : Int) ≤ (d.size : Int) := by omega
      have h1 := HINS.out (20 * t) (20 * t + 20) _ _ hsk S1.out (by omega) (by omega)
      rw [hsk] at h1
      have H1 := Lib.hid h1
      clear h1
      go_wp2_with (go_at_call 111; refine H1.out.mono ?_; rintro e W2 ⟨rfl, S2⟩)
      have S2 : Aside _ := S2
      go_roundg (3 - (t + 1))
      case measure => omega
      case rel => exact ⟨t + 1, by first | rfl | (congr 1; omega), by first | rfl | go_num | (congr 1; omega), by omega, by omega, S2⟩
    · have hltz : ¬ ((20 * t + 20 : Nat) : Int) ≤ (d.size : Int) := by omega
      have hb20 := fun h => blocks_le (ltOf cf) d t htn hlt h
      have hb40 := fun h => blocks_gt (ltOf cf) d t htn hlt h h40
      have h1 := HINS.out (20 * t) d.size _ _ hsk S1.out (by omega) (by omega)
      rw [hsk] at h1
      obtain ⟨D1, hD1⟩ : ∃ D1, insertionSort (ltOf cf) (blocks20 (ltOf cf) t d) (20 * t) d.size = D1 := ⟨_, rfl⟩
      have hsD : D1.size = d.size := by rw [← hD1, insertionSort_size, hsk]
      rw [hD1] at h1 hb20 hb40
      have H1 := Lib.hid h1
      have HB20 := Lib.hid hb20
      have HB40 := Lib.hid hb40
      clear h1 hb20 hb40 hD1
      go_wp2_with (go_at_call 111; refine H1.out.mono ?_; rintro e W2 ⟨rfl, S2⟩)
      have S2 : Aside _ := S2
      clear H1 S1
      by_cases h20 : d.size ≤ 20
      · go_loopg [6] 1 (fun g2 vs wr2 => vs = .int .i64 20 ∧ Aside (SW enc w0 blk off D1 wr2))
        case atStart => exact ⟨rfl, S2⟩
        case round =>
          clear S2
          obtain ⟨rfl, S3⟩ := hrel
          have hz : ¬ (20 : Int) < (d.size : Int) := by omega
          go_wp2_with fail
          go_end0
          exact ⟨rfl, SW.re S3.out (HB20.out h20)⟩
      · go_loopg [6] 3 (fun g2 vs wr2 => (vs = .int .i64 20 ∧ 2 ≤ g2 ∧ Aside (SW enc w0 blk off D1 wr2)) ∨ (vs = .int .i64 40 ∧ Aside (SW enc w0 blk off (stab (ltOf cf) d) wr2)))
        case atStart => exact .inl ⟨rfl, by omega, S2⟩
        case round =>
          clear S2
          rcases hrel with ⟨rfl, hg2, S3⟩ | ⟨rfl, S3⟩
          · have hz : (20 : Int) < (d.size : Int) := by omega
            by_cases hn40 : d.size = 40
            · have h2 : ∀ W, SW enc w0 blk off D1 W → Calls Tryd.prog 112 #[.slice (some ⟨blk, off, none⟩) d.size cap, .int .i64 0, .int .i64 20, .int .i64 40, .func (.func g) #[] cb] W fun e w' => e = .returned (.tuple #[]) ∧ SW enc w0 blk off (stab (ltOf cf) d) w' := fun W hS => by
                have h := HSYM.out 0 20 40 D1 W hsD hS (by omega) (by omega) (by omega) (by omega)
                rw [hsD] at h
                refine h.mono ?_
                rintro e w' ⟨rfl, h3⟩
                exact ⟨rfl, SW.re h3 (by rw [← HB40.out h20, hn40])⟩
              have H2 := Lib.hid h2
              have HN40 := Lib.hid hn40
              clear h2 hn40
              go_wp2_with fail
              go_loopg [7, 8] 3 (fun g3 va vb wr3 => (va = .int .i64 0 ∧ vb = .int .i64 40 ∧ 2 ≤ g3 ∧ Aside (SW enc w0 blk off D1 wr3)) ∨ (va = .int .i64 40 ∧ vb = .int .i64 80 ∧ Aside (SW enc w0 blk off (stab (ltOf cf) d) wr3)))
              case atStart => exact .inl ⟨rfl, rfl, by omega, S3⟩
              case round =>
                clear S3
                rcases hrel with ⟨rfl, rfl, hg3, S4⟩ | ⟨rfl, rfl, S4⟩
                · have hy : (40 : Int) ≤ (d.size : Int) := by have := HN40.out; omega
                  go_wp2_with fail
                  refine (H2.out _ S4.out).mono ?_
                  rintro e W3 ⟨rfl, S5⟩
                  have S5 : Aside _ := S5
                  clear H2 S4
                  go_wp2_with fail
                  go_roundg 1
                  case measure => omega
                  case rel => exact .inr ⟨rfl, rfl, S5⟩
                · have hy : ¬ (80 : Int) ≤ (d.size : Int) := by have := HN40.out; omega
                  have hx : ¬ (60 : Int) < (d.size : Int) := by have := HN40.out; omega
                  go_wp2_with fail
                  go_roundg 1
                  case measure => omega
                  case rel => exact .inr ⟨rfl, S4⟩
            · have h2 : ∀ W, SW enc w0 blk off D1 W → Calls Tryd.prog 112 #[.slice (some ⟨blk, off, none⟩) d.size cap, .int .i64 0, .int .i64 20, .int .i64 d.size, .func (.func g) #[] cb] W fun e w' => e = .returned (.tuple #[]) ∧ SW enc w0 blk off (stab (ltOf cf) d) w' := fun W hS => by
                have h := HSYM.out 0 20 d.size D1 W hsD hS (by omega) (by omega) (by omega) (by omega)
                rw [hsD] at h
                refine h.mono ?_
                rintro e w' ⟨rfl, h3⟩
                exact ⟨rfl, SW.re h3 (by rw [← HB40.out h20])⟩
              have H2 := Lib.hid h2
              clear h2
              go_wp2_with fail
              go_loopg [7, 8] 3 (fun g3 va vb wr3 => va = .int .i64 0 ∧ vb = .int .i64 40 ∧ Aside (SW enc w0 blk off D1 wr3))
              case atStart => exact ⟨rfl, rfl, S3⟩
              case round =>
                clear S3
                obtain ⟨rfl, rfl, S4⟩ := hrel
                have hy : ¬ (40 : Int) ≤ (d.size : Int) := by omega
                go_wp2_with fail
                refine (H2.out _ S4.out).mono ?_
                rintro e W3 ⟨rfl, S5⟩
                have S5 : Aside _ := S5
                clear H2 S4
                go_wp2_with fail
                go_roundg 1
                case measure => omega
                case rel => exact .inr ⟨rfl, S5⟩
          · have hz : ¬ (40 : Int) < (d.size : Int) := by omega
            go_wp2_with fail
            go_end0
            exact ⟨rfl, S3.out⟩

end Go.Proofs.YtflbmccjfnkflaaDoor.Q
