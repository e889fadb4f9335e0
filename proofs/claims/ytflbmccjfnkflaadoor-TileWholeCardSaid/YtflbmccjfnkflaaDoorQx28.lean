-- Written by lfprint.py of this session's own, by way of the kit's print.py; with hand-made contracts.
import Derived.Test.YtflbmccjfnkflaaDoorStable
import Derived.Shelf.SlSortCmp.Kit1
import Derived.Sort.WalkA
import Derived.Deep.LoopGhost
import Derived.KernelRfl
import Derived.Lib.Hide
import Derived.Lib.OwnBridge
import Derived.Lib.AppendIntMem
import Derived.WalkKit
import Derived.Test.YtflbmccjfnkflaaDoorQx0
import Derived.Test.YtflbmccjfnkflaaDoorQx21
import Derived.Test.YtflbmccjfnkflaaDoorQx27
namespace Go.Proofs.YtflbmccjfnkflaaDoor.Q
open Go.RowKit Go.Proofs.YtflbmccjfnkflaaDoorW.PrintWords Go.Proofs.YtflbmccjfnkflaaDoorW.PrintLast Go.Proofs.YtflbmccjfnkflaaDoorW.PrintMore
attribute [local go_sem] max2_int min2_int max_two min_two max_three min_three max_four min_four   -- for this text's walks alone
set_option linter.unusedVariables false
set_option linter.unusedSimpArgs false

open Go.Shelf Go.RowKit Go.Lib Go.Sort Go.Proofs.YtflbmccjfnkflaaDoor.StableSort
set_option linter.unusedVariables false
/-! slices.SortStableFunc -/
set_option maxHeartbeats 4000000 in
theorem st_sort {α : Type} [Inhabited α] (enc : α → Value) (cf : α → α → Int) (g : Nat) (cb : Array Value) (blk cap : Nat) (d : Array α) (w : World)
    (eg : ∀ args w, (callFunc g args).run Tryd.prog w = .ok (.enter g args) w) (hcmp : CmpLays1 Tryd.prog g cb enc cf blk 0 d.size w) (R : Row1 enc w blk 0 d) (h40 : d.size ≤ 40) :
    Calls Tryd.prog 87 #[.slice (some ⟨blk, 0, none⟩) d.size cap, .func (.func g) #[] cb] w fun e w' => e = .returned (.tuple #[]) ∧ SW enc w blk 0 (stab (ltOf cf) d) w' := by
  have h1 := st_stable enc cf g cb blk 0 cap d d w w eg hcmp R rfl (SW.start R.hH) h40
  have H1 := Lib.hid h1
  clear h1 eg hcmp R
  go_enter Tryd.func87, Tryd.ntmps87
  go_wp2_with fail
  refine H1.out.mono ?_
  rintro e w' ⟨rfl, h⟩
  refine Hid.out ?_
  have H := Lib.hid h
  clear h
  refine Lib.hid ?_
  go_wp2
  go_end0
  exact ⟨rfl, H.out⟩
set_option maxHeartbeats 4000000 in
theorem ins_nil (A : Option Addr) (c : Nat) (fv : Value) (w : World) : Calls Tryd.prog 111 #[.slice A 0 c, .int .i64 0, .int .i64 0, fv] w fun e w' => e = .returned (.tuple #[]) ∧ w' = w := by
  go_enter Tryd.func111, Tryd.ntmps111
  go_wp2
  go_loopg [8] 1 (fun g1 vi wr => vi = .int .i64 1 ∧ wr = w)
  case atStart => exact ⟨rfl, rfl⟩
  case round =>
    obtain ⟨rfl, rfl⟩ := hrel
    go_wp2
    go_end0
    exact ⟨rfl, rfl⟩
set_option maxHeartbeats 4000000 in
theorem stable_nil (A : Option Addr) (c : Nat) (fv : Value) (w : World) : Calls Tryd.prog 102 #[.slice A 0 c, .int .i64 0, fv] w fun e w' => e = .returned (.tuple #[]) ∧ w' = w := by
  go_enter Tryd.func102, Tryd.ntmps102
  go_wp2_with fail
  go_loopg [7, 8] 1 (fun g1 va vb wr => va = .int .i64 0 ∧ vb = .int .i64 20 ∧ wr = w)
  case atStart => exact ⟨rfl, rfl, rfl⟩
  case round =>
    obtain ⟨rfl, rfl, hw⟩ := hrel
    go_wp2_with (go_at_call 111; refine (ins_nil A c fv _).mono ?_; rintro e w' ⟨rfl, rfl⟩)
    subst hw
    go_loopg [6] 1 (fun g1 va wr2 => va = .int .i64 20 ∧ wr2 = wr)
    case atStart => exact ⟨rfl, rfl⟩
    case round =>
      obtain ⟨rfl, rfl⟩ := hrel
      go_wp2
      go_end0
      exact ⟨rfl, rfl⟩
theorem sort_nil (A : Option Addr) (c : Nat) (fv : Value) (w : World) : Calls Tryd.prog 87 #[.slice A 0 c, fv] w fun e w' => e = .returned (.tuple #[]) ∧ w' = w := by
  go_enter Tryd.func87, Tryd.ntmps87
  go_wp2_with (go_at_call 102; refine (stable_nil A c fv _).mono ?_; rintro e w' ⟨rfl, rfl⟩)
  go_end0
  exact ⟨rfl, rfl⟩
/-! the order: chunks' numbers -/
def clN (n : Nat) (z : Int) : Int := if 0 ≤ z ∧ z < (n : Int) then z else 0
def manyAt (xs : List S29) (z : Int) : Int := (rd_T29 xs (clN xs.length z)).f3
def cmpI (a b : Int) : Int := if a < b then -1 else if a > b then 1 else 0
theorem cmpI_f (a b : Int) : cmp_Compare_int.f a b = some (cmpI a b) := by
  unfold cmp_Compare_int.f cmp_isNaN_int.f cmpI
  simp only [bne_self_eq_false, Option.bind_some, Bool.false_eq_true, if_false]
  split
  · rfl
  · split <;> rfl
def encL (n : Nat) (z : Int) : Value := .int .i64 (clN n z)
set_option maxHeartbeats 4000000 in
theorem logs_cmp (B : Nat) (A : Option Addr) (cap : Nat) (xs : List S29) (hx : 0 < xs.length) (W : World) (hB : W.cell? ⟨B, 0, none⟩ = some (.slice A xs.length cap)) (hC : Kd.C k29 W A xs.length xs) (x y : Int) :
    Calls Tryd.prog 88 #[encL xs.length x, encL xs.length y, .pointer (some ⟨B, 0, none⟩)] W fun e w' => e = .returned (.int .i64 (cmpI (manyAt xs x) (manyAt xs y))) ∧ ∃ q, w' = W.drewN q := by
  have hcl : ∀ z, 0 ≤ clN xs.length z ∧ clN xs.length z < (xs.length : Int) := fun z => by unfold clN; split <;> omega
  have hx1 := hcl x
  have hy1 := hcl y
  unfold encL manyAt
  generalize clN xs.length x = p at hx1 ⊢
  generalize clN xs.length y = q at hy1 ⊢
  clear hcl
  obtain ⟨ad, rfl, _, _, _, hp3, _⟩ := at_T29 hC p hx1.1 hx1.2
  obtain ⟨ad', e', _, _, _, hq3, _⟩ := at_T29 hC q hy1.1 hy1.2
  obtain rfl : ad = ad' := by injection e'
  have hcmp := fun w => cmp_Compare_int.calls (rd_T29 xs p).f3 (rd_T29 xs q).f3 _ w (cmpI_f _ _)
  have HCMP := Lib.hid hcmp
  obtain ⟨p1, p2⟩ := hx1
  obtain ⟨q1, q2⟩ := hy1
  clear hcmp hC e'
  go_enter Tryd.func88, Tryd.ntmps88
  go_wp2
  go_quiet (first | (go_at_call 89; refine (HCMP.out _).mono ?_; rintro e w2 ⟨rfl, ⟨m2, rfl⟩⟩; exact ⟨rfl, _, World.drewN_drewN ..⟩))
  go_wp2
  go_ret
  exact ⟨rfl, _, rfl⟩
theorem enters_logs : ∀ args w, (callFunc 88 args).run Tryd.prog w = .ok (.enter 88 args) w := enters_of Tryd.func88 (by kernel_rfl) rfl
/-- The closure's contract, in the sort's words. -/
theorem logs_lays (B g : Nat) (A : Option Addr) (cap : Nat) (xs : List S29) (hx : 0 < xs.length) (w : World) (hB : w.cell? ⟨B, 0, none⟩ = some (.slice A xs.length cap)) (hC : Kd.C k29 w A xs.length xs)
    (hg : g < w.heap.size) (hBg : B ≠ g) (hAg : ∀ ad, A = some ad → ad.block ≠ g) (size : Nat) :
    CmpLays1 Tryd.prog 88 #[.pointer (some ⟨B, 0, none⟩)] (encL xs.length) (fun x y => cmpI (manyAt xs x) (manyAt xs y)) g 0 size w := by
  intro m os dk hs x y
  have hlt : B < w.heap.size := World.block_lt_of_cell? _ _ hB
  have hcell : ∀ p : Addr, p.block ≠ g → p.block < w.heap.size → (sortWorld (encL xs.length) w g 0 m dk os).cell? p = w.cell? p := fun p h1 h2 => by
    unfold sortWorld
    rw [cell?_grow _ _ _ (by rw [Go.Sort.size_putRow]; exact h2), cell?_putRow_other _ _ _ _ _ _ (.inl h1)]
    rfl
  have hC2 : Kd.C k29 (sortWorld (encL xs.length) w g 0 m dk os) A xs.length xs := by
    refine ⟨hC.1, hC.2.1, fun hn => ?_⟩
    obtain ⟨ad, e, hc⟩ := hC.2.2 hn
    refine ⟨ad, e, fun j p hj => ?_⟩
    obtain ⟨c, hs2, hr, hcc⟩ := hc j p hj
    obtain rfl := k29_open hr
    exact ⟨_, hs2, k29_mk _ _, fun i u hu => by
      have h1 := hcc i u hu
      have h2 : (ad.add (j * k29.sz + i)).block = ad.block := add_block _ _
      rw [hcell _ (by rw [h2]; exact hAg ad e) (World.block_lt_of_cell? _ _ h1)]
      exact h1⟩
  refine (logs_cmp B A cap xs hx _ ((hcell ⟨B, 0, none⟩ hBg hlt).trans hB) hC2 x y).mono ?_
  rintro e w' ⟨rfl, q, rfl⟩
  exact ⟨rfl, q, #[], (grow_empty _).symm⟩

end Go.Proofs.YtflbmccjfnkflaaDoor.Q
