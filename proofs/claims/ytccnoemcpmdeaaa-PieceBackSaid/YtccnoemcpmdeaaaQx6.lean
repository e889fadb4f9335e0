-- Written by lfprint.py of this session's own, by way of the kit's print.py; with hand-made contracts.
import Derived.RangeFuncNested
import Derived.RangeFuncBound
import Derived.RangeFuncBox
import Derived.RangeFuncCalls
import Derived.RangeFuncLeaves
import Derived.Shelf.Abstract
import Derived.Shelf.RegionOpen
import Derived.OwnWalkIn
import Derived.TacticsInMore
import Derived.LoopNIn
import Derived.LoopIn
import Derived.Maps.AppendAt
import Derived.Test.YtccnoemcpmdeaaaQx0
import Derived.Test.YtccnoemcpmdeaaaQx5
namespace Go.Proofs.Ytccnoemcpmdeaaa.Q
open Go.RowKit Go.Proofs.YtccnoemcpmdeaaaW.PrintWords Go.Proofs.YtccnoemcpmdeaaaW.PrintLast Go.Proofs.YtccnoemcpmdeaaaW.PrintMore
attribute [local go_sem] max2_int min2_int max_two min_two max_three min_three max_four min_four   -- for this text's walks alone
set_option linter.unusedVariables false
set_option linter.unusedSimpArgs false

/-! ### piece_Gather: function 17 -/
attribute [local go_sem] Oper.semAt_some

def gatherVal (image : List Int) (l : List S24) : List Int := (plAll l).map fun p => image.getD p 0
def gatherPre (image : List Int) (pre : List (Nat × Nat)) : List Int := pre.map fun p => image.getD p.2 0
theorem gatherPre_all (image : List Int) (l : List S24) : gatherPre image (plPairs l) = gatherVal image l := by
  simp only [gatherPre, plPairs, gatherVal, List.map_map]
  apply List.ext_getElem
  · simp
  · intro i h1 h2
    simp
theorem gatherPre_snoc (image : List Int) (pre : List (Nat × Nat)) (x : Nat × Nat) : gatherPre image (pre ++ [x]) = gatherPre image pre ++ [image.getD x.2 0] := by simp [gatherPre]
theorem gatherPre_length (image : List Int) (pre : List (Nat × Nat)) : (gatherPre image pre).length = pre.length := by simp [gatherPre]

def piece_Gather.f (l0 : List Int) (l1 : List (S24)) : Option (List Int) := if plFits l1 then some (gatherVal l0 l1) else none

theorem gather_info : (Try.prog.info? 45).map (fun i => (i.zero, i.size, i.bytes)) = some (some (.int .u64 0), 1, 8) := by kernel_rfl

set_option maxRecDepth 100000 in
set_option maxHeartbeats 4000000 in
theorem gather_in (F : Fence) (n : Nat) (h1 : F.fn 17) (h2 : F.fn 24) (h3 : F.fn 27) (hro : F.round = none) (hn : 3 ≤ n) (A0 : Option Addr) (c0 : Nat) (l0 : List Int) (A1 : Option Addr) (c1 : Nat) (l1 : List (S24)) (w : World)
    (hr0 : Kd.C (Kd.int .u64) w A0 l0.length l0) (hr1 : Kd.C k24 w A1 l1.length l1) (hfit : plFits l1) :
    CallsIn F n Try.prog 17 #[.slice A0 l0.length c0, .slice A1 l1.length c1] w fun e W' => ∃ v, e = .returned v ∧ W'.ownsRow w.heap.size 45 1 v (gatherVal l0 l1).length (encs (Value.int .u64) (gatherVal l0 l1)) ∧ Below w.heap.size w W' := by
  have hn1 : 1 ≤ n := by omega
  obtain ⟨i0, hi, hz0, hz1, hz2⟩ := info_parts gather_info
  refine callsIn_of_wp_marks Try.func17 rfl h1 ?_ hro
  simp only [Try.ntmps17, List.size_toArray, List.length_cons, List.length_nil, Nat.reduceAdd, Nat.reduceSub, Array.replicate_succ, Array.replicate_zero, List.push_toArray, List.append_toArray, List.nil_append, List.cons_append]
  gi_wp2_with (gi_at_call 24; refine (places_in F (n - 1) h2 hro _ _ _ _).mono ?_; rintro e w' ⟨rfl, rfl⟩)
  have hlen := plAll_len_le l1 (fun s hs => (hfit.1 s hs).2.2.2)
  have hl1 := hfit.2
  have b0 := Boxed.new w 35 (.slice A0 l0.length c0)
  have b1 := Boxed.new (w.alloc (.cells #[.slice A0 l0.length c0] 35)) 35 (.slice none 0 0)
  have b2 := Boxed.new ((w.alloc (.cells #[.slice A0 l0.length c0] 35)).alloc (.cells #[.slice none 0 0] 35)) 22 (.slice A1 l1.length c1)
  rw [World.size_alloc] at b1
  rw [World.size_alloc, World.size_alloc] at b2
  have hB0 : Below w.heap.size w (((w.alloc (.cells #[.slice A0 l0.length c0] 35)).alloc (.cells #[.slice none 0 0] 35)).alloc (.cells #[.slice A1 l1.length c1] 22)) := (((Below.refl _ w).alloc (Nat.le_refl _) _).alloc (by simp) _).alloc (by simp; omega) _
  refine wpIn_rangeFunc_ownG hro hn1 (gf := 27) (lb := #[.pointer (some ⟨w.heap.size + 1 + 1, 0, none⟩)]) rfl h3 (enters_of Try.func27 (by kernel_rfl) rfl)
    (places_stops F (n - 1) h3 hro (by omega) (w.heap.size + 1 + 1) w.heap.size A1 c1 l1 hfit w _ rfl hr1 hB0 b2) (fun h k => h.trans k) (KeepT.put (by simp; omega)) (Below.refl _ _) (fun _ => rfl)
    (fun pre W => ((∃ v, Boxed W (w.heap.size + 1) 35 v ∧ W.ownsRow w.heap.size 45 1 v (gatherPre l0 pre).length (encs (Value.int .u64) (gatherPre l0 pre)) ∧ True) ∧ Boxed W w.heap.size 35 (.slice A0 l0.length c0)) ∧ Below w.heap.size w W)
    (fun _ _ _ => False)
    (OwnFrom.and (OwnFrom.and (Own.from (holdsRow_own w.heap.size (w.heap.size + 1) 35 45 1 (fun pre => (gatherPre l0 pre).length) (fun pre => encs (Value.int .u64) (gatherPre l0 pre)) (fun pre v => True)) _) (Own.from (boxed_own _ _ _) _)) (ownFrom_below (Nat.le_refl _) (by simp; omega)))
    (fun _ _ _ _ _ hs _ _ => hs)
    ⟨⟨⟨_, b1.alloc _, World.ownsRow_nil _ _ _ _, trivial⟩, (b0.alloc _).alloc _⟩, hB0⟩
    (fun x => { tmps := #[.slice A0 l0.length c0, .slice A1 l1.length c1, .pointer (some ⟨w.heap.size, 0, none⟩), undef, .slice none 0 0, .pointer (some ⟨w.heap.size + 1, 0, none⟩), undef, .int .i64 (x.2 : Int), undef, .slice A1 l1.length c1, .func (.func 27) #[] #[.pointer (some ⟨w.heap.size + 1 + 1, 0, none⟩)], .int .i64 (x.1 : Int), .int .i64 (x.2 : Int), undef, undef, undef, undef, undef, undef, undef, undef, undef, undef, undef, undef, undef], defers := [] }) ?assign ?body ?done ?stop
  case assign =>
    intro l x W K hK
    gi_wp2
    exact hK
  case body =>
    rintro l pre x W ⟨⟨⟨v, hv, hrow, _⟩, hi0⟩, hB⟩ hlt
    have hc := hv.cell
    have hc0 := hi0.cell
    have hpl : (gatherPre l0 pre).length = pre.length := gatherPre_length _ _
    have HPL := Aside0.mk hpl
    rw [hpl] at hrow
    clear hpl
    have hCx := Kd.C_below hr0 hB
    by_cases hx : x.2 < l0.length
    · obtain ⟨ad, rfl, hcell⟩ := Kd.at_int hCx (x.2 : Int) (by omega) (by omega)
      rw [Int.toNat_natCast] at hcell
      obtain ⟨z, hz⟩ : ∃ z, rd l0 (x.2 : Int) = z := ⟨_, rfl⟩
      rw [hz] at hcell
      have HZ : Aside0 (l0.getD x.2 0 = z) := ⟨by rw [← hz]; simp [rd]⟩
      clear hz
      gi_wp2_with (gi_at_builtin; refine wpListIn_append_own _ rfl _ _ 35 rfl w.heap.size 45 i0 (.int .u64 0) 1 8 Try.underlying35 hi hz0 hz1 hz2 rfl (by decide) _ _ _ rfl (hrow.alloc _) ⟨W.heap.size, 0, none⟩ 1 1 [.int .u64 z] rfl rfl (cell_one_new _ _ _) (by simp [Value.oneCell']) (by simp only [maxLen]; omega) (by omega) (by have := hB.size; simp; omega) ?_; intro v' w1 hown' hgrow _; obtain ⟨g', cap', rfl⟩ := ownsRow_succ hown'; obtain ⟨hv1, hv2, hr2, hk2, hb2⟩ := hv.appended (by decide) hrow hB.size (by omega) hown' hgrow; have hi2 : Boxed (w1.setCell ⟨w.heap.size + 1, 0, none⟩ (.slice (some ⟨g', 0, none⟩) (pre.length + 1) cap')) w.heap.size 35 _ := ((hi0.alloc _).kept hgrow (hi0.not_row (by decide) hrow)).other (by omega) _; have hkt := keepT_appended (t := 24) hv (by decide) hrow (by decide) hgrow hb2; have hc1 := hv1.cell; have hf1 := hv1.frozen)
      exact ⟨hk2.from _, hkt, ⟨⟨⟨_, hv2, by rw [gatherPre_snoc, HZ.out]; simpa [encs, HPL.out] using hr2, trivial⟩, hi2⟩, hB.trans hb2⟩⟩
    · have HZ : Aside0 (l0.getD x.2 0 = 0) := ⟨by rw [List.getD_eq_getElem?_getD, List.getElem?_eq_none (by omega)]; rfl⟩
      gi_wp2_with (gi_at_builtin; refine wpListIn_append_own _ rfl _ _ 35 rfl w.heap.size 45 i0 (.int .u64 0) 1 8 Try.underlying35 hi hz0 hz1 hz2 rfl (by decide) _ _ _ rfl (hrow.alloc _) ⟨W.heap.size, 0, none⟩ 1 1 [.int .u64 0] rfl rfl (cell_one_new _ _ _) (by simp [Value.oneCell']) (by simp only [maxLen]; omega) (by omega) (by have := hB.size; simp; omega) ?_; intro v' w1 hown' hgrow _; obtain ⟨g', cap', rfl⟩ := ownsRow_succ hown'; obtain ⟨hv1, hv2, hr2, hk2, hb2⟩ := hv.appended (by decide) hrow hB.size (by omega) hown' hgrow; have hi2 : Boxed (w1.setCell ⟨w.heap.size + 1, 0, none⟩ (.slice (some ⟨g', 0, none⟩) (pre.length + 1) cap')) w.heap.size 35 _ := ((hi0.alloc _).kept hgrow (hi0.not_row (by decide) hrow)).other (by omega) _; have hkt := keepT_appended (t := 24) hv (by decide) hrow (by decide) hgrow hb2; have hc1 := hv1.cell; have hf1 := hv1.frozen)
      exact ⟨hk2.from _, hkt, ⟨⟨⟨_, hv2, by rw [gatherPre_snoc, HZ.out]; simpa [encs, HPL.out] using hr2, trivial⟩, hi2⟩, hB.trans hb2⟩⟩
  case done =>
    rintro D ys W hD rfl ⟨⟨⟨v, hv, hrow, _⟩, hi0⟩, hB⟩ hK
    have hc := hv.cell
    gi_wp2
    refine ⟨by simp, .inl ⟨_, _, rfl, run_takeDeferred hK, ?_⟩⟩
    rw [gatherPre_all] at hrow
    exact ⟨_, results_tmp rfl _ _ _, v, rfl, ownsRow_putObj hrow _ hK rfl, hB.trans (belowK_b (w := w) (Nat.le_refl _) W D _ _ (by simp at hD; omega) hK rfl rfl)⟩
  case stop =>
    rintro D c pre W _ _ h _
    exact h.elim

theorem piece_Gather.calls (A0 : Option Addr) (c0 : Nat) (l0 : List Int) (A1 : Option Addr) (c1 : Nat) (l1 : List (S24)) (r : List Int) (w : World) (hr0 : Kd.C (Kd.int .u64) w A0 l0.length l0) (hc0 : l0.length ≤ c0) (hr1 : Kd.C k24 w A1 l1.length l1) (hc1 : l1.length ≤ c1) (h : piece_Gather.f l0 l1 = some r) :
    Calls Try.prog 17 #[.slice A0 l0.length c0, .slice A1 l1.length c1] w fun e w' => ∃ v0_ : Value, e = .returned (v0_) ∧ Kd.R (Kd.int .u64) 45 w' w.heap.size (fun _ => True) v0_ r ∧ Below w.heap.size w w' := by
  unfold piece_Gather.f at h
  split at h
  case isFalse => cases h
  case isTrue hf =>
  cases h
  refine ((callsIn_wide (n := 3)).1 (gather_in Fence.wide 3 trivial trivial trivial rfl (Nat.le_refl _) A0 c0 l0 A1 c1 l1 w hr0 hr1 hf)).mono ?_
  rintro e W' ⟨v, rfl, ho, hb⟩
  exact ⟨v, rfl, Kd.R_of_own ho (fun _ _ => trivial), hb⟩

end Go.Proofs.Ytccnoemcpmdeaaa.Q
