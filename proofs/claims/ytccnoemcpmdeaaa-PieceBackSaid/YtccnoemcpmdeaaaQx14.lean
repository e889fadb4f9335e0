-- Written by lfprint.py of this session's own, by way of the kit's print.py; with hand-made contracts.
import Derived.RangeFuncNested
import Derived.RangeFuncBound
import Derived.RangeFuncBox
import Derived.RangeFuncCalls
import Derived.RangeFuncLeaves
import Derived.Shelf.Abstract
import Derived.Shelf.RegionOpen
import Derived.OwnWalkIn
import Derived.TacticsInMore
import Derived.LoopNIn
import Derived.LoopIn
import Derived.Maps.AppendAt
import Derived.Test.YtccnoemcpmdeaaaQx0
import Derived.Test.YtccnoemcpmdeaaaQx5
import Derived.Test.YtccnoemcpmdeaaaQx13
namespace Go.Proofs.Ytccnoemcpmdeaaa.Q
open Go.RowKit Go.Proofs.YtccnoemcpmdeaaaW.PrintWords Go.Proofs.YtccnoemcpmdeaaaW.PrintLast Go.Proofs.YtccnoemcpmdeaaaW.PrintMore
attribute [local go_sem] max2_int min2_int max_two min_two max_three min_three max_four min_four   -- for this text's walks alone
set_option linter.unusedVariables false
set_option linter.unusedSimpArgs false

/-! ### piece_Scatter: function 20 -/
attribute [local go_sem] Oper.semAt_some

def scatterStep (words : List Int) (out : List Int) (x : Nat × Nat) : List Int := if x.2 < out.length then out.set x.2 (words.getD x.1 0) else out
def scatterPre (words image : List Int) (pre : List (Nat × Nat)) : List Int := pre.foldl (scatterStep words) image
def scatterVal (image : List Int) (l : List S24) (words : List Int) : List Int := scatterPre words image ((plPairs l).take words.length)
theorem scatterPre_snoc (words image : List Int) (pre : List (Nat × Nat)) (x : Nat × Nat) : scatterPre words image (pre ++ [x]) = scatterStep words (scatterPre words image pre) x := by simp [scatterPre]
theorem scatterStep_length (words out : List Int) (x : Nat × Nat) : (scatterStep words out x).length = out.length := by unfold scatterStep; split <;> simp
theorem scatterPre_length (words image : List Int) (pre : List (Nat × Nat)) : (scatterPre words image pre).length = image.length := by
  unfold scatterPre
  induction pre generalizing image with
  | nil => rfl
  | cons x pre ih => rw [List.foldl_cons, ih, scatterStep_length]

def piece_Scatter.f (l0 : List Int) (l1 : List (S24)) (l2 : List Int) : Option (List Int) := if l0.length < 17592186044416 then if plFits l1 then some (scatterVal l0 l1 l2) else none else none

set_option maxRecDepth 100000 in
set_option maxHeartbeats 4000000 in
theorem scatter_in (A0 : Option Addr) (c0 : Nat) (l0 : List Int) (A1 : Option Addr) (c1 : Nat) (l1 : List (S24)) (A2 : Option Addr) (c2 : Nat) (l2 : List Int) (w : World)
    (hr0 : Kd.C (Kd.int .u64) w A0 l0.length l0) (hc0 : l0.length ≤ c0) (hr1 : Kd.C k24 w A1 l1.length l1) (hr2 : Kd.C (Kd.int .u64) w A2 l2.length l2) (hlim : l0.length < 17592186044416) (hfit : plFits l1) :
    CallsIn Fence.wide 3 Try.prog 20 #[.slice A0 l0.length c0, .slice A1 l1.length c1, .slice A2 l2.length c2] w fun e W' => ∃ v, e = .returned v ∧ W'.ownsRow w.heap.size 45 1 v (scatterVal l0 l1 l2).length (encs (Value.int .u64) (scatterVal l0 l1 l2)) ∧ Below w.heap.size w W' := by
  have hro : Fence.wide.round = none := rfl
  refine callsIn_of_wp_marks Try.func20 rfl trivial ?_ hro
  simp only [Try.ntmps20, List.size_toArray, List.length_cons, List.length_nil, Nat.reduceAdd, Nat.reduceSub, Array.replicate_succ, Array.replicate_zero, List.push_toArray, List.append_toArray, List.nil_append, List.cons_append]
  have hcl := fun W (hb : Below w.heap.size w W) => slices_Clone_uint64_uint64.calls A0 c0 l0 l0 W (Kd.C_below hr0 hb) hc0 (by simp [slices_Clone_uint64_uint64.f, hlim])
  have HCL := Aside0.mk hcl
  clear hcl
  gi_wp2_with (first | (refine ⟨trivial, ?_⟩; gi_at_call 25; refine (callsIn_wide.2 (HCL.out _ ((Below.refl _ w).alloc (Nat.le_refl _) _))).mono ?_; rintro e w1 ⟨v1, rfl, ho1, hb1⟩; have ho2 := Kd.own_of_R ho1; rw [World.size_alloc] at ho2; obtain ⟨A7, c7, rfl⟩ := own_slice ho2; have hs1 := hb1.size; rw [World.size_alloc] at hs1) | (refine ⟨trivial, ?_⟩; gi_at_call 24; refine (places_in Fence.wide _ trivial hro _ _ _ _).mono ?_; rintro e w' ⟨rfl, rfl⟩))
  have b7 := Boxed.new w1 35 (.slice A7 l0.length c7)
  have b5 : Boxed w1 w.heap.size 35 (.slice A2 l2.length c2) := (hb1.block _ (by simp)).trans (Boxed.new w _ _)
  have b2 := Boxed.new (w1.alloc (.cells #[.slice A7 l0.length c7] 35)) 22 (.slice A1 l1.length c1)
  rw [World.size_alloc] at b2
  have hBw : Below w.heap.size w w1 := ((Below.refl _ w).alloc (Nat.le_refl _) _).trans (hb1.mono (by simp))
  have hB0 : Below w.heap.size w ((w1.alloc (.cells #[.slice A7 l0.length c7] 35)).alloc (.cells #[.slice A1 l1.length c1] 22)) := (hBw.alloc (by omega) _).alloc (by simp; omega) _
  have hlen : (scatterPre l2 l0 []).length = l0.length := scatterPre_length _ _ _
  refine wpIn_rangeFunc_ownG hro (by omega) (gf := 27) (lb := #[.pointer (some ⟨w1.heap.size + 1, 0, none⟩)]) rfl trivial (enters_of Try.func27 (by kernel_rfl) rfl)
    (places_stops Fence.wide _ trivial hro (by omega) (w1.heap.size + 1) w.heap.size A1 c1 l1 hfit w _ rfl hr1 hB0 b2) (fun h k => h.trans k) (KeepT.put (by simp; omega)) (Below.refl _ _) (fun _ => rfl)
    (fun pre W => (((∃ v, Boxed W w1.heap.size 35 v ∧ W.ownsRow w.heap.size 45 1 v (scatterPre l2 l0 pre).length (encs (Value.int .u64) (scatterPre l2 l0 pre)) ∧ v = .slice A7 l0.length c7) ∧ Boxed W w.heap.size 35 (.slice A2 l2.length c2)) ∧ (∀ p ∈ pre, p.1 < l2.length)) ∧ Below w.heap.size w W)
    (fun (c : Code) (pre : List (Nat × Nat)) W => ((∃ v, Boxed W w1.heap.size 35 v ∧ W.ownsRow w.heap.size 45 1 v (scatterPre l2 l0 pre.dropLast).length (encs (Value.int .u64) (scatterPre l2 l0 pre.dropLast)) ∧ v = .slice A7 l0.length c7) ∧ (c = .exit 0 ∧ ∃ ini x, pre = ini ++ [x] ∧ l2.length ≤ x.1 ∧ (∀ p ∈ ini, p.1 < l2.length))) ∧ Below w.heap.size w W)
    (OwnFrom.and (OwnFrom.and (OwnFrom.and (Own.from (holdsRow_own w.heap.size w1.heap.size 35 45 1 (fun pre => (scatterPre l2 l0 pre).length) (fun pre => encs (Value.int .u64) (scatterPre l2 l0 pre)) (fun pre v => v = .slice A7 l0.length c7)) _) (Own.from (boxed_own _ _ _) _)) (ownFrom_pure _ _)) (ownFrom_below (Nat.le_refl _) (by simp; omega)))
    (fun c => OwnFrom.and (OwnFrom.and (Own.from (holdsRow_own w.heap.size w1.heap.size 35 45 1 (fun (pre : List (Nat × Nat)) => (scatterPre l2 l0 pre.dropLast).length) (fun (pre : List (Nat × Nat)) => encs (Value.int .u64) (scatterPre l2 l0 pre.dropLast)) (fun pre v => v = .slice A7 l0.length c7)) _) (ownFrom_pure _ _)) (ownFrom_below (Nat.le_refl _) (by simp; omega)))
    ⟨⟨⟨⟨_, b7.alloc _, by rw [hlen]; exact own_less ((ho2.alloc _).alloc _) (Nat.le_succ _), rfl⟩, (b5.alloc _).alloc _⟩, by simp⟩, hB0⟩
    (fun x => { tmps := #[.slice A0 l0.length c0, .slice A1 l1.length c1, .slice A2 l2.length c2, undef, undef, .pointer (some ⟨w.heap.size, 0, none⟩), .slice none 0 0, .pointer (some ⟨w1.heap.size, 0, none⟩), .int .i64 (x.1 : Int), .int .i64 (x.2 : Int), .slice A0 l0.length c0, .slice A7 l0.length c7, .slice A1 l1.length c1, .func (.func 27) #[] #[.pointer (some ⟨w1.heap.size + 1, 0, none⟩)], .int .i64 (x.1 : Int), .int .i64 (x.2 : Int), undef, undef, undef, undef, undef, undef, undef, undef, undef, undef, undef, undef, undef, undef, undef, undef], defers := [] }) ?assign ?body ?done ?stop
  case assign =>
    intro l x W K hK
    gi_wp2
    exact hK
  case body =>
    rintro l pre x W ⟨⟨⟨⟨v, hv, hrow, rfl⟩, hi0⟩, hpre⟩, hB⟩ hlt
    have hc := hv.cell
    have hc0 := hi0.cell
    have hlen' : (scatterPre l2 l0 pre).length = l0.length := scatterPre_length _ _ _
    have HS := Aside0.mk hrow
    rw [hlen'] at hrow
    have HL := Aside0.mk hlen'
    clear hlen'
    by_cases hi : x.1 < l2.length
    · obtain ⟨ad2, rfl, hcell2⟩ := Kd.at_int (Kd.C_below hr2 hB) (x.1 : Int) (by omega) (by omega)
      rw [Int.toNat_natCast] at hcell2
      obtain ⟨z, hz⟩ : ∃ z, rd l2 (x.1 : Int) = z := ⟨_, rfl⟩
      rw [hz] at hcell2
      have HZ : Aside0 (l2.getD x.1 0 = z) := ⟨by rw [← hz]; simp [rd]⟩
      clear hz
      have hnext : ∀ p ∈ pre ++ [x], p.1 < l2.length := fun p hp => (List.mem_append.1 hp).elim (hpre p) (fun e => by simp at e; subst e; exact hi)
      have HN := Aside0.mk hnext
      have HP := Aside0.mk hpre
      clear hnext hpre
      by_cases hat : x.2 < l0.length
      · obtain ⟨g, cap, hg, _, _⟩ := hrow.form (by omega)
        injection hg with hg1 _ hg2
        subst hg1 hg2
        obtain ⟨hc7, hf7⟩ := own_at (k := .u64) hrow (x.2 : Int) (by omega) (by omega)
        rw [Int.toNat_natCast] at hc7 hf7
        have hst := own_store (k := .u64) hrow (x.2 : Int) z
        rw [Int.toNat_natCast] at hst
        have hgb : w.heap.size ≤ g := own_base hrow g rfl
        have hn1 : w1.heap.size ≠ g := fun e => hv.not_row (by decide) hrow (by rw [e]; rfl)
        have hn0 : w.heap.size ≠ g := fun e => hi0.not_row (by decide) hrow (by rw [e]; rfl)
        have FIN : Aside0 (KeepsFrom ((w1.alloc (Obj.cells #[Value.slice (some ⟨g, 0, none⟩) l0.length c7] 35)).alloc (Obj.cells #[Value.slice A1 l1.length c1] 22)).heap.size W (W.setCell ⟨g, x.2, none⟩ (.int .u64 z)).drew ∧ KeepT w.heap.size 24 W (W.setCell ⟨g, x.2, none⟩ (.int .u64 z)).drew ∧
            ((((∃ v, Boxed (W.setCell ⟨g, x.2, none⟩ (.int .u64 z)).drew w1.heap.size 35 v ∧ (W.setCell ⟨g, x.2, none⟩ (.int .u64 z)).drew.ownsRow w.heap.size 45 1 v (scatterPre l2 l0 (pre ++ [x])).length (encs (Value.int .u64) (scatterPre l2 l0 (pre ++ [x]))) ∧ v = .slice (some ⟨g, 0, none⟩) l0.length c7) ∧ Boxed (W.setCell ⟨g, x.2, none⟩ (.int .u64 z)).drew w.heap.size 35 (.slice (some ad2) l2.length c2)) ∧ (∀ p ∈ pre ++ [x], p.1 < l2.length)) ∧ Below w.heap.size w (W.setCell ⟨g, x.2, none⟩ (.int .u64 z)).drew)) := by
          have hbw : Below w.heap.size W (W.setCell ⟨g, x.2, none⟩ (.int .u64 z)).drew := below_drew ((Below.refl _ W).setCell (p := ⟨g, x.2, none⟩) hgb _)
          have hsn : scatterPre l2 l0 (pre ++ [x]) = (scatterPre l2 l0 pre).set x.2 z := by rw [scatterPre_snoc, scatterStep, if_pos (by rw [HL.out]; exact hat), HZ.out]
          refine ⟨⟨((KeepsOthers.setCell _ _ _).trans (KeepsOthers.drew _)).from _, ⟨hbw, fun k cs fr hk => ?_⟩, ⟨⟨⟨_, ?_, ?_, rfl⟩, ?_⟩, HN.out⟩, hB.trans hbw⟩⟩
          · refine (Below.heap_setCell W ⟨g, x.2, none⟩ _ k (fun e => ?_)).trans hk
            obtain ⟨cells, hc⟩ := own_typed hrow g rfl
            rw [e] at hk
            rw [hk] at hc; injection hc with hc; injection hc with _ h3; cases h3
          · exact (Below.heap_setCell W ⟨g, x.2, none⟩ _ _ hn1).trans hv
          · rw [hsn, List.length_set, HL.out]; exact hst.1
          · exact (Below.heap_setCell W ⟨g, x.2, none⟩ _ _ hn0).trans hi0
        clear hst hgb hn1 hn0
        have hmx : Try.prog.follows Departure.mixedOrders = true := by kernel_rfl
        gi_wp2
        gi_region_o
        all_goals gi_wp2
        all_goals exact FIN.out
      · gi_wp2
        exact ⟨KeepsFrom.refl _ _, KeepT.refl _ _ _, ⟨⟨⟨_, hv, by rw [scatterPre_snoc, scatterStep, if_neg (by rw [HL.out]; exact hat)]; exact HS.out, rfl⟩, hi0⟩, HN.out⟩, hB⟩
    · have HP := Aside0.mk hpre
      clear hpre
      gi_wp2
      exact ⟨KeepsFrom.refl _ _, ⟨⟨_, hv, by rw [List.dropLast_concat]; exact HS.out, rfl⟩, rfl, pre, x, rfl, by omega, HP.out⟩, hB⟩
  case done =>
    rintro D ys W hD rfl ⟨⟨⟨⟨v, hv, hrow, rfl⟩, hi0⟩, hpre⟩, hB⟩ hK
    have hc := hv.cell
    have htk : (plPairs l1).take l2.length = plPairs l1 := by
      apply List.take_of_length_le
      rcases Nat.lt_or_ge l2.length (plPairs l1).length with h | h
      · exfalso
        have h1 := hpre _ (List.getElem_mem h)
        have h2 := plPairs_at l1 l2.length
        rw [List.getElem?_eq_getElem h, List.getElem?_eq_getElem (by rw [← plPairs_length]; exact h)] at h2
        injection h2 with h2
        rw [h2] at h1
        exact Nat.lt_irrefl _ h1
      · exact h
    have hval : scatterPre l2 l0 (plPairs l1) = scatterVal l0 l1 l2 := by unfold scatterVal; rw [htk]
    clear htk hpre
    have HV := Aside0.mk hval
    clear hval
    gi_wp2
    refine ⟨by simp, .inl ⟨_, _, rfl, run_takeDeferred hK, ?_⟩⟩
    rw [HV.out] at hrow
    exact ⟨_, results_tmp rfl _ _ _, _, rfl, ownsRow_putObj hrow _ hK rfl, hB.trans (belowK_b (w := w) (Nat.le_refl _) W D _ _ (by simp at hD; omega) hK rfl rfl)⟩
  case stop =>
    rintro D c pre W hD hpx ⟨⟨⟨v, hv, hrow, rfl⟩, rfl, ini, x, rfl, hx, hini⟩, hB⟩ hK
    have hc := hv.cell
    rw [List.dropLast_concat] at hrow
    have hval : scatterPre l2 l0 ini = scatterVal l0 l1 l2 := by
      obtain ⟨rest, hr⟩ := hpx
      have hin : ini = (plPairs l1).take ini.length := by rw [← hr]; simp
      have hxat : (plPairs l1)[ini.length]? = some x := by rw [← hr]; simp
      have hx1 : x.1 = ini.length := by
        rw [plPairs_at] at hxat
        cases he : (plAll l1)[ini.length]? with
        | none => rw [he] at hxat; cases hxat
        | some y => rw [he] at hxat; injection hxat with hxat; rw [← hxat]
      have hle : ini.length ≤ l2.length := by
        rcases Nat.lt_or_ge l2.length ini.length with h | h
        · exfalso
          have h1 := hini _ (List.getElem_mem h)
          have h2 := plPairs_at l1 l2.length
          have h3 : (plPairs l1)[l2.length]? = some ini[l2.length] := by
            rw [← hr, List.getElem?_append_left (by simp; omega), List.getElem?_append_left h, List.getElem?_eq_getElem h]
          rw [h3] at h2
          cases he : (plAll l1)[l2.length]? with
          | none => rw [he] at h2; cases h2
          | some y => rw [he] at h2; injection h2 with h2; rw [h2] at h1; exact Nat.lt_irrefl _ h1
        · exact h
      have : ini.length = l2.length := by omega
      unfold scatterVal
      rw [← this, ← hin]
    clear hpx hx hini
    have HV := Aside0.mk hval
    clear hval
    gi_wp2
    refine ⟨by simp, .inl ⟨_, _, rfl, run_takeDeferred hK, ?_⟩⟩
    rw [HV.out] at hrow
    exact ⟨_, results_tmp rfl _ _ _, _, rfl, ownsRow_putObj hrow _ hK rfl, hB.trans (belowK_b (w := w) (Nat.le_refl _) W D _ _ (by simp at hD; omega) hK rfl rfl)⟩

theorem piece_Scatter.calls (A0 : Option Addr) (c0 : Nat) (l0 : List Int) (A1 : Option Addr) (c1 : Nat) (l1 : List (S24)) (A2 : Option Addr) (c2 : Nat) (l2 : List Int) (r : List Int) (w : World) (hr0 : Kd.C (Kd.int .u64) w A0 l0.length l0) (hc0 : l0.length ≤ c0) (hr1 : Kd.C k24 w A1 l1.length l1) (hc1 : l1.length ≤ c1) (hr2 : Kd.C (Kd.int .u64) w A2 l2.length l2) (hc2 : l2.length ≤ c2) (h : piece_Scatter.f l0 l1 l2 = some r) :
    Calls Try.prog 20 #[.slice A0 l0.length c0, .slice A1 l1.length c1, .slice A2 l2.length c2] w fun e w' => ∃ v0_ : Value, e = .returned (v0_) ∧ Kd.R (Kd.int .u64) 45 w' w.heap.size (fun _ => True) v0_ r ∧ Below w.heap.size w w' := by
  unfold piece_Scatter.f at h
  split at h
  case isFalse => cases h
  case isTrue hlim =>
  split at h
  case isFalse => cases h
  case isTrue hf =>
  cases h
  refine ((callsIn_wide (n := 3)).1 (scatter_in A0 c0 l0 A1 c1 l1 A2 c2 l2 w hr0 hc0 hr1 hr2 hlim hf)).mono ?_
  rintro e W' ⟨v, rfl, ho, hb⟩
  exact ⟨v, rfl, Kd.R_of_own ho (fun _ _ => trivial), hb⟩

end Go.Proofs.Ytccnoemcpmdeaaa.Q
