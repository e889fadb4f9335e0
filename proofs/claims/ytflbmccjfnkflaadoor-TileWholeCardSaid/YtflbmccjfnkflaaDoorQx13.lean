-- Written by lfprint.py of this session's own, by way of the kit's print.py; with hand-made contracts.
import Derived.RangeFuncNested
import Derived.RangeFuncBound
import Derived.RangeFuncBox
import Derived.RangeFuncCalls
import Derived.RangeFuncLeaves
import Derived.Shelf.Abstract
import Derived.Shelf.RegionOpen
import Derived.OwnWalkIn
import Derived.TacticsInMore
import Derived.LoopNIn
import Derived.LoopIn
import Derived.Maps.AppendAt
import Derived.Outline
import Derived.Test.YtflbmccjfnkflaaDoorQx0
import Derived.Test.YtflbmccjfnkflaaDoorQx11
import Derived.Test.YtflbmccjfnkflaaDoorQx12
namespace Go.Proofs.YtflbmccjfnkflaaDoor.Q
open Go.RowKit Go.Proofs.YtflbmccjfnkflaaDoorW.PrintWords Go.Proofs.YtflbmccjfnkflaaDoorW.PrintLast Go.Proofs.YtflbmccjfnkflaaDoorW.PrintMore
attribute [local go_sem] max2_int min2_int max_two min_two max_three min_three max_four min_four   -- for this text's walks alone
set_option linter.unusedVariables false
set_option linter.unusedSimpArgs false

/-! ### field_Places: function 92 -/
attribute [local go_sem] Oper.semAt_some

/-- Is that bit of a word 1? -/
def bitAt (w : Int) (k : Nat) : Bool := Go.bits .and .u64 (w / 2 ^ k) 1 == 1
/-- The bits that are 1, of the first so many. -/
def ones (w : Int) (m : Nat) : List Nat := (List.range m).filter (bitAt w)
theorem ones_succ (w : Int) (m : Nat) : ones w (m + 1) = if bitAt w m = true then ones w m ++ [m] else ones w m := by
  unfold ones
  rw [List.range_succ, List.filter_append]
  cases h : bitAt w m <;> simp [h]
theorem ones_length (w : Int) (m : Nat) : (ones w m).length ≤ m := by
  unfold ones
  exact Nat.le_trans (List.length_filter_le _ _) (by simp)
theorem ones_prefix (w : Int) (a : Nat) : ∀ b, ones w a <+: ones w (a + b)
  | 0 => List.prefix_refl _
  | b + 1 => (ones_prefix w a b).trans (by
      rw [← Nat.add_assoc, ones_succ]
      split
      · exact List.prefix_append _ _
      · exact List.prefix_refl _)

set_option maxRecDepth 100000 in
set_option maxHeartbeats 4000000 in
theorem fe_yields (F : Fence) (n : Nat) (hF : F.fn 114) (h115 : F.fn 115) (hw : F = Fence.wide) (hro : F.round = none) (hn : 1 ≤ n) (l Bm Bw n₀ : Nat) (m bw : Int) (M : Nat) (hM : field_held.f m = some (M : Int)) (hM64 : M ≤ 64)
    (w0 : World) (hn0 : w0.heap.size = n₀) (J Jx : List Nat → World → Prop) (W : World) (hb0 : Below n₀ w0 W) (hJ : AbidesFrom W.heap.size J)
    (hY : ∀ pre x W1, J pre W1 → pre.length < 64 → YieldAt F (n - 1) Tryd.prog l #[.int .i64 ((x : Nat) : Int)] W1 fun e W' =>
      (e = .returned (.bool true) ∧ J (pre ++ [x]) W' ∧ KeepT n₀ 27 W1 W') ∨ (e = .returned (.bool false) ∧ Jx (pre ++ [x]) W'))
    (hBm : w0.cell? ⟨Bm, 0, none⟩ = some (.int .i64 m)) (hBw : w0.cell? ⟨Bw, 0, none⟩ = some (.int .u64 bw)) (h0 : J [] W) :
    CallsIn F n Tryd.prog 114 #[.func (.yield l) #[] #[], .pointer (some ⟨Bm, 0, none⟩), .pointer (some ⟨Bw, 0, none⟩)] W fun e W' => (∃ v, e = .returned v) ∧
      ((∃ ys, ys = ones bw M ∧ J ys W') ∨ (∃ pre, pre <+: ones bw M ∧ Jx pre W')) := by
  subst hw
  refine callsIn_of_wp Tryd.func114 rfl hF ?_ hro
  simp only [Tryd.ntmps114, List.size_toArray, List.length_cons, List.length_nil, Nat.reduceAdd, Nat.reduceSub, Array.replicate_succ, Array.replicate_zero, List.push_toArray, List.append_toArray, List.nil_append, List.cons_append]
  have hm0 : W.cell? ⟨Bm, 0, none⟩ = some (.int .i64 m) := pw_cell_below (hn0 ▸ hb0) hBm
  gi_wp2
  refine (callsIn_wide.2 (field_held.calls m (M : Int) _ hM)).mono ?_
  rintro e w' ⟨rfl, hbh⟩
  have hJ1 := hJ _ _ _ none h0 (below_grown hbh) (by simp)
  have hb1 : Below n₀ W w' := hbh.mono (by have := hb0.size; omega)
  gi_wp2
  gi_loopw [4, 7] (fun _ j wr => ∃ a : Nat, a ≤ M ∧ j = .int .i64 (a : Int) ∧ J (ones bw a) wr ∧ Below n₀ W wr)
    (fun _ j _ => M - (intOf j).toNat)
  case atStart => exact ⟨0, Nat.zero_le _, rfl, hJ1, hb1⟩
  case round =>
    obtain ⟨a, ha, rfl, hJs, hbr⟩ := hrel
    have hbw : w0.heap.size ≤ w0.heap.size := Nat.le_refl _
    have hcw : wr.cell? ⟨Bw, 0, none⟩ = some (.int .u64 bw) := pw_cell_below (hn0 ▸ (hb0.trans hbr)) hBw
    by_cases hlt : a < M
    · by_cases hbit : bitAt bw a = true
      · obtain ⟨fn, tmps, assign, body, hy, hR⟩ := hY _ a wr hJs (by have := ones_length bw a; omega)
        have hb' : (Go.bits .and .u64 (bw / 2 ^ a) 1 == 1) = true := hbit
        gi_wp2
        refine hR.mono ?_
        rintro e W3 (⟨rfl, hJ3, hk3⟩ | ⟨rfl, hJx3⟩)
        · gi_wp2
          go_roundw
          case rel => exact ⟨a + 1, by omega, by go_num, by rw [ones_succ, if_pos hbit]; exact hJ3, hbr.trans hk3.1⟩
          case measure => simp [intOf]; omega
        · gi_wp2
          refine bodyPost_ret (results_none rfl _ _ _) rfl ?_
          exact ⟨⟨_, rfl⟩, .inr ⟨_, by have h2 := ones_prefix bw (a + 1) (M - (a + 1)); rw [Nat.add_sub_cancel' (by omega), ones_succ, if_pos hbit] at h2; exact h2, hJx3⟩⟩
      · have hb' : (Go.bits .and .u64 (bw / 2 ^ a) 1 == 1) = false := by simpa [bitAt] using hbit
        gi_wp2
        refine ⟨fun _ h => (by cases h), ?_⟩
        gi_wp2
        go_roundw
        case rel => exact ⟨a + 1, by omega, by go_num, by rw [ones_succ, if_neg hbit]; exact hJs, hbr⟩
        case measure => simp [intOf]; omega
    · obtain rfl : a = M := by omega
      gi_wp2
      go_end0
      exact ⟨⟨_, rfl⟩, .inl ⟨_, rfl, hJs⟩⟩

set_option maxHeartbeats 1000000 in
theorem fe_in (F : Fence) (n : Nat) (hF : F.fn 105) (hro : F.round = none) (bw m : Int) (w : World) :
    CallsIn F n Tryd.prog 105 #[.int .u64 bw, .int .i64 m] w fun e w' => e = .returned (.func (.func 114) #[] #[.pointer (some ⟨w.heap.size + 1, 0, none⟩), .pointer (some ⟨w.heap.size, 0, none⟩)]) ∧ w' = (w.alloc (.cells #[.int .u64 bw] 27)).alloc (.cells #[.int .i64 m] 3) := by
  refine callsIn_of_wp Tryd.func105 rfl hF ?_ hro
  simp only [Tryd.ntmps105, List.size_toArray, List.length_cons, List.length_nil, Nat.reduceAdd, Nat.reduceSub, Array.replicate_succ, Array.replicate_zero, List.push_toArray, List.append_toArray, List.nil_append, List.cons_append]
  gi_wp2
  go_ret
  exact ⟨rfl, rfl⟩
/-- What each(w, many) hands back tells all places in order, or a part. -/
theorem fe_stops (F : Fence) (n : Nat) (hF : F.fn 114) (h115 : F.fn 115) (hw : F = Fence.wide) (hro : F.round = none) (hn : 1 ≤ n) (Bm Bw : Nat) (m bw : Int) (M : Nat) (hM : field_held.f m = some (M : Int)) (hM64 : M ≤ 64)
    (w0 w : World) (hb0 : Below w0.heap.size w0 w) (hBm : w0.cell? ⟨Bm, 0, none⟩ = some (.int .i64 m)) (hBw : w0.cell? ⟨Bw, 0, none⟩ = some (.int .u64 bw)) :
    SeqStopsK F n Tryd.prog 114 #[.pointer (some ⟨Bm, 0, none⟩), .pointer (some ⟨Bw, 0, none⟩)] (fun x : Nat => #[Value.int .i64 (x : Int)]) (KeepT w0.heap.size 27) (fun ys => ys = ones bw M) (fun pre => pre <+: ones bw M) 64 w := by
  intro l J Jx W hW hJ _ hY h0
  exact fe_yields F n hF h115 hw hro hn l Bm Bw w0.heap.size m bw M hM hM64 w0 rfl J Jx W (hb0.trans (hW.mono hb0.size)) hJ hY hBm hBw h0

theorem fint_info : (Tryd.prog.info? 3).map (fun i => (i.zero, i.size, i.bytes)) = some (some (.int .i64 0), 1, 8) := by kernel_rfl

set_option maxRecDepth 100000 in
set_option maxHeartbeats 4000000 in
theorem fappend_in (F : Fence) (n : Nat) (h1 : F.fn 113) (h3 : F.fn 114) (h115 : F.fn 115) (hw : F = Fence.wide) (hro : F.round = none) (hn : 3 ≤ n) (Bm Bw : Nat) (m bw : Int) (M : Nat) (hM : field_held.f m = some (M : Int)) (hM64 : M ≤ 64) (w : World)
    (hBm : w.cell? ⟨Bm, 0, none⟩ = some (.int .i64 m)) (hBw : w.cell? ⟨Bw, 0, none⟩ = some (.int .u64 bw)) :
    CallsIn F n Tryd.prog 113 #[.slice none 0 0, .func (.func 114) #[] #[.pointer (some ⟨Bm, 0, none⟩), .pointer (some ⟨Bw, 0, none⟩)]] w fun e W' => ∃ v, e = .returned v ∧ W'.ownsRow w.heap.size 3 1 v (ones bw M).length ((ones bw M).map fun k => Value.int .i64 ((k : Nat) : Int)) ∧ Below w.heap.size w W' := by
  have hn1 : 1 ≤ n := by omega
  obtain ⟨i0, hi, hz0, hz1, hz2⟩ := info_parts fint_info
  refine callsIn_of_wp_marks Tryd.func113 rfl h1 ?_ hro
  simp only [Tryd.ntmps113, List.size_toArray, List.length_cons, List.length_nil, Nat.reduceAdd, Nat.reduceSub, Array.replicate_succ, Array.replicate_zero, List.push_toArray, List.append_toArray, List.nil_append, List.cons_append]
  gi_wp2
  have b1 := Boxed.new w 77 (.slice none 0 0)
  have hB0 : Below w.heap.size w (w.alloc (.cells #[.slice none 0 0] 77)) := (Below.refl _ w).alloc (Nat.le_refl _) _
  refine wpIn_rangeFunc_ownG hro hn1 (gf := 114) (lb := #[.pointer (some ⟨Bm, 0, none⟩), .pointer (some ⟨Bw, 0, none⟩)]) rfl h3 (enters_of Tryd.func114 (by kernel_rfl) rfl)
    (fe_stops F (n - 1) h3 h115 hw hro (by omega) Bm Bw m bw M hM hM64 w _ hB0 hBm hBw) (fun h k => h.trans k) (KeepT.put (by simp)) (Below.refl _ _) (fun _ => rfl)
    (fun pre W => (∃ v, Boxed W w.heap.size 77 v ∧ W.ownsRow w.heap.size 3 1 v pre.length (pre.map fun k => Value.int .i64 ((k : Nat) : Int)) ∧ True) ∧ Below w.heap.size w W)
    (fun _ _ _ => False)
    (OwnFrom.and (Own.from (holdsRow_own w.heap.size w.heap.size 77 3 1 (fun (pre : List Nat) => pre.length) (fun (pre : List Nat) => pre.map fun (k : Nat) => Value.int .i64 (k : Int)) (fun _ _ => True)) _) (ownFrom_below (Nat.le_refl _) (by simp)))
    (fun _ _ _ _ _ hs _ _ => hs)
    ⟨⟨_, b1, World.ownsRow_nil _ _ _ _, trivial⟩, hB0⟩
    (fun x => { tmps := #[.slice none 0 0, .func (.func 114) #[] #[.pointer (some ⟨Bm, 0, none⟩), .pointer (some ⟨Bw, 0, none⟩)], .pointer (some ⟨w.heap.size, 0, none⟩), undef, .slice none 0 0, .int .i64 (x : Int), .func (.func 114) #[] #[.pointer (some ⟨Bm, 0, none⟩), .pointer (some ⟨Bw, 0, none⟩)], .int .i64 (x : Int), undef, undef, undef, undef, undef], defers := [] }) ?assign ?body ?done ?stop
  case assign =>
    intro l x W K hK
    gi_wp2
    exact hK
  case body =>
    rintro l pre x W ⟨⟨v, hv, hrow, _⟩, hB⟩ hlt
    have hc := hv.cell
    gi_wp2_with (gi_at_builtin; refine wpListIn_append_own _ rfl _ _ 77 rfl w.heap.size 3 i0 (.int .i64 0) 1 8 Tryd.underlying77 hi hz0 hz1 hz2 rfl (by decide) _ _ _ rfl (hrow.alloc _) ⟨W.heap.size, 0, none⟩ 1 1 [.int .i64 (x : Int)] rfl rfl (cell_one_new _ _ _) (by simp [Value.oneCell']) (by simp only [maxLen]; omega) (by omega) (by have := hB.size; simp; omega) ?_; intro v' w1 hown' hgrow _; obtain ⟨g', cap', rfl⟩ := ownsRow_succ hown'; obtain ⟨hv1, hv2, hr2, hk2, hb2⟩ := hv.appended (by decide) hrow hB.size (by omega) hown' hgrow; have hkt := keepT_appended (t := 27) hv (by decide) hrow (by decide) hgrow hb2; have hc1 := hv1.cell; have hf1 := hv1.frozen)
    exact ⟨hk2.from _, hkt, ⟨⟨_, hv2, by simpa using hr2, trivial⟩, hB.trans hb2⟩⟩
  case done =>
    rintro D ys W hD rfl ⟨⟨v, hv, hrow, _⟩, hB⟩ hK
    have hc := hv.cell
    gi_wp2
    refine ⟨by simp, .inl ⟨_, _, rfl, run_takeDeferred hK, ?_⟩⟩
    exact ⟨_, results_tmp rfl _ _ _, v, rfl, ownsRow_putObj hrow _ hK rfl, hB.trans (belowK_b (w := w) (Nat.le_refl _) W D _ _ (by simp at hD; omega) hK rfl rfl)⟩
  case stop =>
    rintro D c pre W _ _ h _
    exact h.elim

set_option maxHeartbeats 1000000 in
theorem fcollect (Bm Bw : Nat) (m bw : Int) (M : Nat) (hM : field_held.f m = some (M : Int)) (hM64 : M ≤ 64) (w : World)
    (hBm : w.cell? ⟨Bm, 0, none⟩ = some (.int .i64 m)) (hBw : w.cell? ⟨Bw, 0, none⟩ = some (.int .u64 bw)) :
    Calls Tryd.prog 104 #[.func (.func 114) #[] #[.pointer (some ⟨Bm, 0, none⟩), .pointer (some ⟨Bw, 0, none⟩)]] w fun e W' => ∃ v, e = .returned v ∧ W'.ownsRow w.heap.size 3 1 v (ones bw M).length ((ones bw M).map fun k => Value.int .i64 ((k : Nat) : Int)) ∧ Below w.heap.size w W' := by
  go_enter Tryd.func104, Tryd.ntmps104
  go_wp2_with (go_at_call 113; refine ((callsIn_wide (n := 3)).1 (fappend_in Fence.wide 3 trivial trivial trivial rfl rfl (Nat.le_refl _) Bm Bw m bw M hM hM64 _ hBm hBw)).mono ?_; rintro e w' ⟨v, rfl, ho, hb⟩)
  go_ret
  exact ⟨v, rfl, ho, hb⟩

def onesI (w m : Int) : List Int := (ones w (max 0 (min m 64)).toNat).map fun (k : Nat) => (k : Int)
set_option maxHeartbeats 1000000 in
theorem places_own (bw m : Int) (w : World) :
    Calls Tryd.prog 92 #[.int .u64 bw, .int .i64 m] w fun e w' => ∃ v, e = .returned v ∧ w'.ownsRow w.heap.size 3 1 v (onesI bw m).length (encs (Value.int .i64) (onesI bw m)) ∧ Below w.heap.size w w' := by
  obtain ⟨M, hMe⟩ : ∃ M : Nat, (max 0 (min m 64)).toNat = M := ⟨_, rfl⟩
  have hM : field_held.f m = some (M : Int) := by
    rw [← hMe]; unfold field_held.f; congr 1; unfold mx mn; repeat' split
    all_goals omega
  have hM64 : M ≤ 64 := by omega
  have HM := Aside0.mk hM
  have HM2 := Aside0.mk hM64
  have HE := Aside0.mk hMe
  clear hM hM64 hMe
  go_enter Tryd.func92, Tryd.ntmps92
  go_wp2_with (first
    | (go_at_call 105; refine ((callsIn_wide (n := 3)).1 (fe_in Fence.wide 3 trivial rfl bw m _)).mono ?_; rintro e w' ⟨rfl, rfl⟩)
    | (go_at_call 104; refine (fcollect (w.heap.size + 1) w.heap.size m bw M HM.out HM2.out _ (by simp) (by simp)).mono ?_; rintro e w' ⟨v, rfl, ho, hb⟩))
  go_ret
  refine ⟨v, rfl, ?_, ?_⟩
  · have h1 : (onesI bw m).length = (ones bw M).length := by simp [onesI, HE.out]
    have h2 : encs (Value.int .i64) (onesI bw m) = (ones bw M).map fun k => Value.int .i64 ((k : Nat) : Int) := by simp [onesI, HE.out, encs]
    rw [h1, h2]
    exact own_less ho (by simp; omega)
  · exact below_step (((Below.refl _ w).alloc (Nat.le_refl _) _).alloc (by simp) _) hb
def field_Places.f (a0 a1 : Int) : Option (List Int) := some (onesI a0 a1)
theorem field_Places.calls (a0 a1 : Int) (r : List Int) (w : World) (h : field_Places.f a0 a1 = some r) :
    Calls Tryd.prog 92 #[.int .u64 a0, .int .i64 a1] w fun e w' => ∃ v0_ : Value, e = .returned v0_ ∧ Kd.R (Kd.int .i64) 3 w' w.heap.size (fun _ => True) v0_ r ∧ Below w.heap.size w w' := by
  cases h
  refine (places_own a0 a1 w).mono ?_
  rintro e W' ⟨v, rfl, ho, hb⟩
  exact ⟨v, rfl, Kd.R_of_own ho (fun _ _ => trivial), hb⟩

end Go.Proofs.YtflbmccjfnkflaaDoor.Q
