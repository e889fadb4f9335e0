-- Written by lfprint.py of this session's own, by way of the kit's print.py; with hand-made contracts.
import Derived.Outline
import Derived.Lib.Hide
import Derived.Lib.OthersKept
import Derived.Lib.RuneCount
import Derived.Deep.RegionHeld3
import Derived.Lib.Strings
import Derived.Lib.DecodeN
import Derived.BigQuiet
import Derived.Deep.QuietTactic
import Derived.Test.YtlbgepadkaehiaaDoorQx0
import Derived.Test.YtlbgepadkaehiaaDoorQx4
import Derived.Test.YtlbgepadkaehiaaDoorQx6
import Derived.Test.YtlbgepadkaehiaaDoorQx9
import Derived.Test.YtlbgepadkaehiaaDoorQx13
namespace Go.Proofs.YtlbgepadkaehiaaDoor.Q
open Go.RowKit Go.Proofs.YtlbgepadkaehiaaDoorW.PrintWords Go.Proofs.YtlbgepadkaehiaaDoorW.PrintLast Go.Proofs.YtlbgepadkaehiaaDoorW.PrintMore
attribute [local go_sem] max2_int min2_int max_two min_two max_three min_three max_four min_four   -- for this text's walks alone
set_option linter.unusedVariables false
set_option linter.unusedSimpArgs false

/-! ### oid_Parse: function 12 -/
/-- What a range over a string meets: a byte 46 alone, or bytes none of which is 46. -/
theorem dec_dot (s : ByteArray) (pos : Nat) (h : pos < s.size) (hb : s.get! pos = 46) : Utf8.decode s pos = (46, 1) := by
  unfold Utf8.decode
  simp [hb]
theorem decN_other (n b0 b1 b2 b3 : Nat) (hn : 1 ≤ n) (h : b0 ≠ 46) : (Lib.decodeN n b0 b1 b2 b3).1 ≠ 46 ∧ 1 ≤ (Lib.decodeN n b0 b1 b2 b3).2 ∧ (Lib.decodeN n b0 b1 b2 b3).2 ≤ n ∧ (Lib.decodeN n b0 b1 b2 b3).2 ≤ 4
    ∧ (2 ≤ (Lib.decodeN n b0 b1 b2 b3).2 → b1 / 64 = 2) ∧ (3 ≤ (Lib.decodeN n b0 b1 b2 b3).2 → b2 / 64 = 2) ∧ (4 ≤ (Lib.decodeN n b0 b1 b2 b3).2 → b3 / 64 = 2) := by
  unfold Lib.decodeN
  repeat' split
  all_goals (dsimp only; refine ⟨?_, ?_, ?_, ?_, ?_, ?_, ?_⟩ <;> omega)
theorem dec_other (s : ByteArray) (pos : Nat) (h : pos < s.size) (hb : s.get! pos ≠ 46) :
    (Utf8.decode s pos).1 ≠ 46 ∧ 1 ≤ (Utf8.decode s pos).2 ∧ pos + (Utf8.decode s pos).2 ≤ s.size ∧ ∀ j, j < (Utf8.decode s pos).2 → s.get! (pos + j) ≠ 46 := by
  rw [Lib.decode_at]
  have hb0 : (s.get! pos).toNat ≠ 46 := fun e => hb (UInt8.toNat_inj.1 (by rw [e]; rfl))
  obtain ⟨h1, h2, h3, h4, h5, h6, h7⟩ := decN_other (s.size - pos) (s.get! pos).toNat (s.get! (pos + 1)).toNat (s.get! (pos + 2)).toNat (s.get! (pos + 3)).toNat (by omega) hb0
  generalize Lib.decodeN (s.size - pos) (s.get! pos).toNat (s.get! (pos + 1)).toNat (s.get! (pos + 2)).toNat (s.get! (pos + 3)).toNat = d at *
  refine ⟨h1, h2, by omega, fun j hj => ?_⟩
  have far : ∀ c : UInt8, c.toNat / 64 = 2 → c ≠ 46 := fun c hc e => by rw [e] at hc; exact absurd hc (by decide)
  match j, hj with
  | 0, _ => simpa using hb
  | 1, hj => exact far _ (h5 (by omega))
  | 2, hj => exact far _ (h6 (by omega))
  | 3, hj => exact far _ (h7 (by omega))
  | n + 4, hj => omega
/-- The number that a part tells. -/
def partN (t : ByteArray) : Option Nat := match parseE t with | .ok v => if digB v = t then some v else none | _ => none
/-- The numbers between the points of a text that ends in one: from place p on, the part having begun at fr. -/
def numGo (s : ByteArray) : Nat → Nat → Nat → List Nat → Option (List Nat)
  | 0, _, _, _ => none
  | f + 1, p, fr, acc =>
    if p < s.size then
      (if s.get! p = 46 then (if acc.length = 3 then none else (partN (s.extract fr p)).bind fun v => numGo s f (p + 1) (p + 1) (acc ++ [v]))
      else numGo s f (p + 1) fr acc)
    else if acc.length = 3 then some acc else none
def dotted (s : ByteArray) : ByteArray := s ++ ⟨#[46]⟩
def num3 (s : ByteArray) : Option (List Nat) := numGo (dotted s) (s.size + 2) 0 0 []
theorem ext_app (s x : ByteArray) (a b : Nat) (hb : b ≤ s.size) : s.extract a b = (s ++ x).extract a b := by
  apply ByteArray.ext
  rw [ByteArray.data_extract, ByteArray.data_extract, ByteArray.data_append, Array.extract_append]
  have e : b - s.data.size = 0 := by
    have : s.data.size = s.size := rfl
    omega
  rw [e, Array.extract_zero, Array.append_empty]
theorem numGo_skip (s : ByteArray) (fr : Nat) (acc : List Nat) : ∀ (w f p : Nat), p + w ≤ s.size → (∀ j, j < w → s.get! (p + j) ≠ 46) → numGo s (f + w) p fr acc = numGo s f (p + w) fr acc := by
  intro w
  induction w with
  | zero => intro f p _ _; rfl
  | succ w ih =>
    intro f p hp hj
    rw [show f + (w + 1) = (f + w) + 1 by omega, numGo, if_pos (by omega), if_neg (by simpa using hj 0 (by omega)), ih f (p + 1) (by omega) (fun j h => by have := hj (j + 1) (by omega); rwa [show p + (j + 1) = p + 1 + j by omega] at this)]
    congr 1; omega
/-- The three places, as far as they are filled. -/
def arr3 (l : List Nat) : Array Value := #[.int .u64 ((l.getD 0 0 : Nat) : Int), .int .u64 ((l.getD 1 0 : Nat) : Int), .int .u64 ((l.getD 2 0 : Nat) : Int)]
theorem partN_err (t : ByteArray) (h : ∀ v, parseE t ≠ .ok v) : partN t = none := by
  unfold partN
  split
  · rename_i v hv; exact absurd hv (h v)
  · rfl
theorem partN_ok (t : ByteArray) (v : Nat) (h : parseE t = .ok v) (he : digB v = t) : partN t = some v := by
  unfold partN
  rw [h]
  exact if_pos he
theorem partN_no (t : ByteArray) (v : Nat) (h : parseE t = .ok v) (he : ¬ digB v = t) : partN t = none := by
  unfold partN
  rw [h]
  exact if_neg he
theorem arr3_at (l : List Nat) (h : l.length < 3) : (arr3 l)[l.length]? = some (.int .u64 0) := by
  match l, h with
  | [], _ => rfl
  | [a], _ => rfl
  | [a, b], _ => rfl
theorem arr3_set (l : List Nat) (v : Nat) (h : l.length < 3) : (arr3 l).setIfInBounds l.length (.int .u64 (v : Int)) = arr3 (l ++ [v]) := by
  match l, h with
  | [], _ => rfl
  | [a], _ => rfl
  | [a, b], _ => rfl
theorem ba_ne {a b : ByteArray} (h : ¬ a = b) : (a.toList == b.toList) = false := by
  cases e : (a.toList == b.toList)
  · rfl
  · exact absurd (ByteArray.ext (Array.toList_inj.1 (by have := eq_of_beq e; rwa [ByteArray.toList_eq, ByteArray.toList_eq] at this))) h
theorem arrU : Tryd.prog.underlying 49 = some (.array 3 22) := by kernel_rfl
theorem parseE_lt (t : ByteArray) (v : Nat) (h : parseE t = .ok v) : v < 18446744073709551616 := by
  unfold parseE at h
  split at h
  · exact absurd h (noNum_ne v)
  · exact Lib.parseUint10_lt _ 0 v (by omega) h
theorem Gl.below2 {w W : World} (h : Gl w) (hb : Below w.heap.size w W) : Gl W := h.below hb
/-- What numbers hands back. -/
def NumsSaid (r : Option (List Nat)) (w : World) (e : Ending) (w' : World) : Prop := (∃ l ok, e = .returned (.tuple #[.agg (arr3 l), .bool ok]) ∧ ((ok = true ∧ r = some l) ∨ (ok = false ∧ r = none))) ∧ Below w.heap.size w w'
set_option maxRecDepth 1000000 in
set_option maxHeartbeats 8000000 in
theorem nums (s : ByteArray) (hs : s.size ≤ 140737488351232) (w : World) (hG : Gl w) :
    Calls Tryd.prog 24 #[.string s] w (NumsSaid (num3 s) w) := by
  have hsz : (s ++ (⟨#[46]⟩ : ByteArray)).size = s.size + 1 := by rw [ByteArray.size_append]; rfl
  have hno : ¬ 9223372036854775807 < s.size + 1 := by omega
  obtain ⟨S, hS⟩ : ∃ S, s ++ (⟨#[46]⟩ : ByteArray) = S := ⟨_, rfl⟩
  have hnum : num3 s = numGo S (S.size + 1) 0 0 [] := by unfold num3 dotted; rw [hS]; congr 1; rw [← hS, hsz]
  have hSs : S.size = s.size + 1 := by rw [← hS]; exact hsz
  have hext : ∀ a b, b ≤ s.size → s.extract a b = S.extract a b := fun a b hb => by rw [← hS]; exact ext_app s _ a b hb
  have HN := Lib.hid hnum
  have HS := Lib.hid hS
  have HX := Lib.hid hext
  have HSS := Lib.hid hSs
  have HG := Lib.hid hG
  obtain ⟨B, hB⟩ : ∃ B, w.heap.size = B := ⟨_, rfl⟩
  have HB := Lib.hid hB
  clear hsz hG hS hnum hext hSs hB
  go_enter Tryd.func24, Tryd.ntmps24
  go_wp2
  rw [HS.out, HB.out]
  go_loopw [4, 5] (fun vk vf wr => ∃ (p fr fuel : Nat) (acc : List Nat), vk = .int .i64 (acc.length : Int) ∧ vf = .int .i64 (fr : Int) ∧ acc.length ≤ 3 ∧ fr ≤ p ∧ p ≤ S.size ∧ S.size < p + fuel ∧ wr.heap[B]? = some (.cells (arr3 acc) 49 (0, 0)) ∧ wr.heap[B + 1]? = some (.stringIter S p) ∧ Below w.heap.size w wr ∧ Hid (numGo S fuel p fr acc = num3 s)) (fun _ _ wr => S.size - wr.iterPos (B + 1))
  case atStart =>
    refine ⟨0, 0, S.size + 1, [], rfl, rfl, by simp, by omega, by omega, by omega, ?_, ?_, ?_, HN.out.symm⟩
    · refine blk_alloc ?_ _
      rw [← HB.out]
      show (w.heap.push _)[w.heap.size]? = _
      rw [Array.getElem?_push_size]
      rfl
    · have := World.iter_heap (w.alloc (.cells #[.int .u64 0, .int .u64 0, .int .u64 0] 49)) S 0
      simpa [HB.out] using this
    · exact ((Below.refl _ w).alloc (Nat.le_refl _) _).alloc (by simp) _
  case round =>
    obtain ⟨p, fr, fuel, acc, rfl, rfl, hal, hfp, hpS, hfu, harr, hit, hbw, HO⟩ := hrel
    have hszB : B + 1 < wr.heap.size := (Array.getElem?_eq_some_iff.1 hit).1
    have hBw : w.heap.size ≤ B := by have := HB.out; omega
    by_cases hp : p < S.size
    · obtain ⟨f, rfl⟩ : ∃ f, fuel = f + 1 := ⟨fuel - 1, by omega⟩
      have hnx : ∀ ty, (Instr.next (.pointer (some ⟨B + 1, 0, none⟩)) true ty).run Tryd.prog wr = _ := fun ty => Lib.run_next_any_at wr (B + 1) S p ty hit hp
      by_cases hdot : S.get! p = 46
      · have hd := dec_dot S p hp hdot
        rw [hd] at hnx
        have hHd := Lib.hid hdot
        clear hd hdot
        have harr2 := (Lib.iterAt_other wr (B + 1) B S (p + 1) (by omega)).trans harr
        have hit2 := Lib.iterAt_heap wr (B + 1) S p (p + 1) hit
        have hbw2 := Lib.below_iterAt hbw (k := B + 1) (by have := HB.out; omega) S (p + 1)
        have hsz2 := Lib.iterAt_size wr (B + 1) S (p + 1)
        generalize wr.iterAt (B + 1) S (p + 1) = w1 at hnx harr2 hit2 hbw2 hsz2
        by_cases h3 : acc.length = 3
        · have h3' : ((acc.length : Int) == 3) = true := by simp; omega
          obtain ⟨x0, hx0⟩ : ∃ x, ((acc.getD 0 0 : Nat) : Int) = x := ⟨_, rfl⟩
          obtain ⟨x1, hx1⟩ : ∃ x, ((acc.getD 1 0 : Nat) : Int) = x := ⟨_, rfl⟩
          obtain ⟨x2, hx2⟩ : ∃ x, ((acc.getD 2 0 : Nat) : Int) = x := ⟨_, rfl⟩
          have hA : arr3 acc = #[.int .u64 x0, .int .u64 x1, .int .u64 x2] := by unfold arr3; rw [hx0, hx1, hx2]
          rw [hA] at harr2
          have HA := Lib.hid hA
          clear hA hx0 hx1 hx2
          have hq0 := (blk_cell harr2 0).trans rfl
          have hq1 := (blk_cell harr2 1).trans rfl
          have hq2 := (blk_cell harr2 2).trans rfl
          have hz0 := blk_frozen harr2 0
          have hz1 := blk_frozen harr2 1
          have hz2 := blk_frozen harr2 2
          go_wp2
          refine bodyPost_ret (results_ct rfl _ _ B 49 _ (0,0) _ rfl (blk_put (blk_put (blk_put harr2 0 (.int .u64 x0) rfl) 1 (.int .u64 x1) rfl) 2 (.int .u64 x2) rfl) arrU rfl (by kernel_rfl)) rfl ?_
          refine ⟨⟨acc, _, by rw [HA.out]; rfl, .inr ⟨rfl, ?_⟩⟩, below_set (below_set (below_set hbw2 hBw) hBw) hBw⟩
          rw [← HO.out, numGo, if_pos hp, if_pos hHd.out, if_pos h3]
        · have h3' : ((acc.length : Int) == 3) = false := by simp; omega
          have hps : p ≤ s.size := by have := HSS.out; omega
          have hps' : (p : Int) ≤ (s.size : Int) := by omega
          have hfp' : (fr : Int) ≤ (p : Int) := by omega
          obtain ⟨t, ht⟩ : ∃ t, s.extract fr p = t := ⟨_, rfl⟩
          have hts : t.size ≤ 281474976710656 := by rw [← ht, ByteArray.size_extract]; omega
          have HT := Lib.hid ht
          clear ht
          by_cases hok : ∃ v, parseE t = .ok v
          · obtain ⟨v, hv⟩ := hok
            have HV := Lib.hid hv
            clear hv
            go_wp2_with (go_at_call 31; rw [HT.out]; refine (pu_ok t hts v HV.out _).mono ?_; rintro e w2 ⟨rfl, hb2⟩)
            have hvb : v < 18446744073709551616 := parseE_lt t v HV.out
            have hFm := fun (W : World) (hb : Below w2.heap.size w2 W) => strconv_FormatUint_22.calls (v : Int) 10 (digB v) W (by unfold strconv_FormatUint_22.f; rw [if_pos ⟨by omega, rfl⟩, Int.toNat_natCast]) (((HG.out.below hbw2).below hb2).below hb)
            have HFM := Lib.hid hFm
            clear hFm
            have hS0 : Below w2.heap.size w2 w2 := Below.refl _ _
            go_region_held3 (fun w' => Below w2.heap.size w2 w') (first | assumption | exact below_drew1 (by assumption) | exact pw_below_drewN (by assumption) _ | exact below_step (by assumption) (by assumption)) (first | (go_at_call 22; refine (HFM.out _ (by first | assumption | exact below_drew1 (by assumption) | exact pw_below_drewN (by assumption) _)).mono ?_; rintro e w4 ⟨rfl, hb4⟩))
            have hb4' : Below w2.heap.size w2 w4 := by assumption
            have harr4 := blk_below (blk_below harr2 hb2) hb4'
            have hit4 := blk_below (blk_below hit2 hb2) hb4'
            have hbw4 := below_step (below_step hbw2 hb2) hb4'
            rw [HT.out]
            obtain ⟨bb, hbb⟩ : ∃ bb, ((digB v).toList == t.toList) = bb := ⟨_, rfl⟩
            rw [hbb]
            by_cases heq : digB v = t
            · obtain rfl : bb = true := by rw [← hbb, heq]; exact beq_self_eq_true _
              clear hbb
              have HEQ := Lib.hid heq
              clear heq
              have hc : w4.cell? ⟨B, acc.length, none⟩ = some (.int .u64 0) := (blk_cell harr4 acc.length).trans (arr3_at acc (by omega))
              have hz : w4.frozen? ⟨B, acc.length, none⟩ = false := blk_frozen harr4 acc.length
              have hAL : acc.length < 3 := by omega
              clear h3' hps'
              have hk3 : (acc.length : Int) < 3 := by omega
              go_wp2
              go_roundw
              case rel =>
                refine ⟨p + 1, p + 1, f, acc ++ [v], by simp, by simp, by simp; omega, by omega, by omega, by omega, blk_put harr4 acc.length (.int .u64 v) (arr3_set acc v (by omega)), ?_, below_set hbw4 hBw, ?_⟩
                · exact (Below.heap_setCell _ _ _ _ (by simp)).trans hit4
                · show _ = _
                  rw [← HO.out, numGo, if_pos hp, if_pos hHd.out, if_neg h3, ← HX.out fr p hps, HT.out, partN_ok t v HV.out HEQ.out]
                  rfl
              case measure =>
                have hit5 : (w4.setCell ⟨B, acc.length, none⟩ (.int .u64 (v : Int))).heap[B + 1]? = some (.stringIter S (p + 1)) := (Below.heap_setCell _ _ _ _ (by simp)).trans hit4
                simp only [World.iterPos, hit5, hit]
                omega
            · obtain rfl : bb = false := by rw [← hbb]; exact ba_ne heq
              clear hbb
              have HEQ := Lib.hid heq
              clear heq
              obtain ⟨x0, hx0⟩ : ∃ x, ((acc.getD 0 0 : Nat) : Int) = x := ⟨_, rfl⟩
              obtain ⟨x1, hx1⟩ : ∃ x, ((acc.getD 1 0 : Nat) : Int) = x := ⟨_, rfl⟩
              obtain ⟨x2, hx2⟩ : ∃ x, ((acc.getD 2 0 : Nat) : Int) = x := ⟨_, rfl⟩
              have hA : arr3 acc = #[.int .u64 x0, .int .u64 x1, .int .u64 x2] := by unfold arr3; rw [hx0, hx1, hx2]
              rw [hA] at harr4
              have HA := Lib.hid hA
              clear hA hx0 hx1 hx2
              have hq0 := (blk_cell harr4 0).trans rfl
              have hq1 := (blk_cell harr4 1).trans rfl
              have hq2 := (blk_cell harr4 2).trans rfl
              have hz0 := blk_frozen harr4 0
              have hz1 := blk_frozen harr4 1
              have hz2 := blk_frozen harr4 2
              go_wp2
              refine bodyPost_ret (results_ct rfl _ _ B 49 _ (0,0) _ rfl (blk_put (blk_put (blk_put harr4 0 (.int .u64 x0) rfl) 1 (.int .u64 x1) rfl) 2 (.int .u64 x2) rfl) arrU rfl (by kernel_rfl)) rfl ?_
              refine ⟨⟨acc, _, by rw [HA.out]; rfl, .inr ⟨rfl, ?_⟩⟩, below_set (below_set (below_set hbw4 hBw) hBw) hBw⟩
              rw [← HO.out, numGo, if_pos hp, if_pos hHd.out, if_neg h3, ← HX.out fr p hps, HT.out, partN_no t v HV.out HEQ.out]
              rfl
          · have HV := Lib.hid (fun v hv => hok ⟨v, hv⟩)
            clear hok
            go_wp2_with (go_at_call 31; rw [HT.out]; refine (pu_err t hts HV.out _ (HG.out.below hbw2)).mono ?_; rintro e w2 ⟨⟨xx, tt, pp, rfl⟩, hb2⟩)
            go_quiet (fail)
            have harr3 := blk_drewN (blk_below harr2 hb2) nq
            have hbw3 := pw_below_drewN (below_step hbw2 hb2) nq
            obtain ⟨x0, hx0⟩ : ∃ x, ((acc.getD 0 0 : Nat) : Int) = x := ⟨_, rfl⟩
            obtain ⟨x1, hx1⟩ : ∃ x, ((acc.getD 1 0 : Nat) : Int) = x := ⟨_, rfl⟩
            obtain ⟨x2, hx2⟩ : ∃ x, ((acc.getD 2 0 : Nat) : Int) = x := ⟨_, rfl⟩
            have hA : arr3 acc = #[.int .u64 x0, .int .u64 x1, .int .u64 x2] := by unfold arr3; rw [hx0, hx1, hx2]
            rw [hA] at harr3
            have HA := Lib.hid hA
            clear hA hx0 hx1 hx2
            have hq0 := (blk_cell harr3 0).trans rfl
            have hq1 := (blk_cell harr3 1).trans rfl
            have hq2 := (blk_cell harr3 2).trans rfl
            have hz0 := blk_frozen harr3 0
            have hz1 := blk_frozen harr3 1
            have hz2 := blk_frozen harr3 2
            go_wp2
            refine bodyPost_ret (results_ct rfl _ _ B 49 _ (0,0) _ rfl (blk_put (blk_put (blk_put harr3 0 (.int .u64 x0) rfl) 1 (.int .u64 x1) rfl) 2 (.int .u64 x2) rfl) arrU rfl (by kernel_rfl)) rfl ?_
            refine ⟨⟨acc, _, by rw [HA.out]; rfl, .inr ⟨rfl, ?_⟩⟩, below_set (below_set (below_set hbw3 hBw) hBw) hBw⟩
            rw [← HO.out, numGo, if_pos hp, if_pos hHd.out, if_neg h3, ← HX.out fr p hps, HT.out, partN_err t HV.out]
            rfl
      · obtain ⟨hr, hw1, hwS, hall⟩ := dec_other S p hp hdot
        obtain ⟨r, hrE⟩ : ∃ r, (Utf8.decode S p).1 = r := ⟨_, rfl⟩
        obtain ⟨wd, hwE⟩ : ∃ wd, (Utf8.decode S p).2 = wd := ⟨_, rfl⟩
        rw [hrE] at hnx hr
        rw [hwE] at hnx hw1 hwS hall
        have hrz : ((r : Int) == 46) = false := by simp; omega
        have hrz2 : ((r : Int) != 46) = true := by simp; omega
        have HALL := Lib.hid hall
        clear hrE hwE hdot hall
        have harr2 := (Lib.iterAt_other wr (B + 1) B S (p + wd) (by omega)).trans harr
        have hit2 := Lib.iterAt_heap wr (B + 1) S p (p + wd) hit
        have hbw2 := Lib.below_iterAt hbw (k := B + 1) (by have := HB.out; omega) S (p + wd)
        generalize wr.iterAt (B + 1) S (p + wd) = w1 at hnx harr2 hit2 hbw2
        go_wp2
        go_roundw
        case rel =>
          refine ⟨p + wd, fr, f + 1 - wd, acc, rfl, rfl, hal, by omega, hwS, by omega, harr2, hit2, hbw2, ?_⟩
          show _ = _
          rw [← HO.out, ← numGo_skip S fr acc wd (f + 1 - wd) p hwS HALL.out]
          congr 1; omega
        case measure =>
          simp only [World.iterPos, hit2, hit]
          omega
    · have hnx : ∀ ty, (Instr.next (.pointer (some ⟨B + 1, 0, none⟩)) true ty).run Tryd.prog wr = _ := fun ty => Lib.run_next_end_at wr (B + 1) S p ty hit hp
      by_cases h3 : acc.length = 3
      · have h3' : ((acc.length : Int) == 3) = true := by simp; omega
        obtain ⟨x0, hx0⟩ : ∃ x, ((acc.getD 0 0 : Nat) : Int) = x := ⟨_, rfl⟩
        obtain ⟨x1, hx1⟩ : ∃ x, ((acc.getD 1 0 : Nat) : Int) = x := ⟨_, rfl⟩
        obtain ⟨x2, hx2⟩ : ∃ x, ((acc.getD 2 0 : Nat) : Int) = x := ⟨_, rfl⟩
        have hA : arr3 acc = #[.int .u64 x0, .int .u64 x1, .int .u64 x2] := by unfold arr3; rw [hx0, hx1, hx2]
        rw [hA] at harr
        have HA := Lib.hid hA
        clear hA hx0 hx1 hx2
        have hq0 := (blk_cell harr 0).trans rfl
        have hq1 := (blk_cell harr 1).trans rfl
        have hq2 := (blk_cell harr 2).trans rfl
        have hz0 := blk_frozen harr 0
        have hz1 := blk_frozen harr 1
        have hz2 := blk_frozen harr 2
        go_wp2
        refine bodyPost_ret (results_ct rfl _ _ B 49 _ (0,0) _ rfl (blk_put (blk_put (blk_put harr 0 (.int .u64 x0) rfl) 1 (.int .u64 x1) rfl) 2 (.int .u64 x2) rfl) arrU rfl (by kernel_rfl)) rfl ?_
        refine ⟨⟨acc, _, by rw [HA.out]; rfl, .inl ⟨rfl, ?_⟩⟩, below_set (below_set (below_set hbw hBw) hBw) hBw⟩
        obtain ⟨f, rfl⟩ : ∃ f, fuel = f + 1 := ⟨fuel - 1, by omega⟩
        rw [← HO.out, numGo, if_neg hp, if_pos h3]
      · have h3' : ((acc.length : Int) == 3) = false := by simp; omega
        obtain ⟨x0, hx0⟩ : ∃ x, ((acc.getD 0 0 : Nat) : Int) = x := ⟨_, rfl⟩
        obtain ⟨x1, hx1⟩ : ∃ x, ((acc.getD 1 0 : Nat) : Int) = x := ⟨_, rfl⟩
        obtain ⟨x2, hx2⟩ : ∃ x, ((acc.getD 2 0 : Nat) : Int) = x := ⟨_, rfl⟩
        have hA : arr3 acc = #[.int .u64 x0, .int .u64 x1, .int .u64 x2] := by unfold arr3; rw [hx0, hx1, hx2]
        rw [hA] at harr
        have HA := Lib.hid hA
        clear hA hx0 hx1 hx2
        have hq0 := (blk_cell harr 0).trans rfl
        have hq1 := (blk_cell harr 1).trans rfl
        have hq2 := (blk_cell harr 2).trans rfl
        have hz0 := blk_frozen harr 0
        have hz1 := blk_frozen harr 1
        have hz2 := blk_frozen harr 2
        go_wp2
        refine bodyPost_ret (results_ct rfl _ _ B 49 _ (0,0) _ rfl (blk_put (blk_put (blk_put harr 0 (.int .u64 x0) rfl) 1 (.int .u64 x1) rfl) 2 (.int .u64 x2) rfl) arrU rfl (by kernel_rfl)) rfl ?_
        refine ⟨⟨acc, _, by rw [HA.out]; rfl, .inr ⟨rfl, ?_⟩⟩, below_set (below_set (below_set hbw hBw) hBw) hBw⟩
        obtain ⟨f, rfl⟩ : ∃ f, fuel = f + 1 := ⟨fuel - 1, by omega⟩
        rw [← HO.out, numGo, if_neg hp, if_neg h3]
theorem wrap_small (n : Int) (h0 : 0 ≤ n) (h : n < 2147483648) : wrap64 n = n := by
  unfold wrap64
  omega
theorem arr3_nums (l : List Nat) : ∃ n0 n1 n2 : Int, ((l.getD 0 0 : Nat) : Int) = n0 ∧ ((l.getD 1 0 : Nat) : Int) = n1 ∧ ((l.getD 2 0 : Nat) : Int) = n2 ∧ arr3 l = #[.int .u64 n0, .int .u64 n1, .int .u64 n2] := ⟨_, _, _, rfl, rfl, rfl, rfl⟩
def oid_Parse.f (a0 : ByteArray) : Option (Int × Int × Int × Bool) :=
  if a0.size ≤ 140737488351232 then (match num3 a0 with
    | some l => if l.getD 0 0 < 2147483648 ∧ l.getD 1 0 < 2147483648 then some ((l.getD 0 0 : Nat), (l.getD 1 0 : Nat), (l.getD 2 0 : Nat), true) else some (0, 0, 0, false)
    | none => some (0, 0, 0, false)) else none
set_option maxRecDepth 1000000 in
set_option maxHeartbeats 8000000 in
theorem oid_Parse.calls (a0 : ByteArray) (r1 : Int) (r2 : Int) (r3 : Int) (r4 : Bool) (w : World) (h : oid_Parse.f a0 = some (r1, r2, r3, r4)) :
    CallsG 12 #[.string a0] w fun e w' => e = .returned (.tuple #[.agg #[.int .i64 r1, .int .i64 r2, .int .u64 r3], .bool r4]) ∧ Below w.heap.size w w' := by
  intro hG
  unfold oid_Parse.f at h
  split at h
  case isFalse => cases h
  case isTrue hs =>
  have hN := fun W hb => nums a0 hs W (hG.below (W := W) hb)
  have HN := Lib.hid hN
  have H := Lib.hid h
  clear hN hG hs h
  go_enter Tryd.func12, Tryd.ntmps12
  go_wp2_with (go_at_call 24; refine (HN.out _ ((Below.refl _ w).alloc (Nat.le_refl _) _)).mono ?_; intro e w1 hq; obtain ⟨⟨l, ok, rfl, hl⟩, hb⟩ := hq; refine Hid.out ?_)
  refine Lib.hid ?_
  obtain ⟨n0, n1, n2, hn0, hn1, hn2, hA⟩ := arr3_nums l
  rw [hA]
  have HL := Lib.hid hl
  have H0 := Lib.hid hn0
  have H1 := Lib.hid hn1
  have H2 := Lib.hid hn2
  clear hl hn0 hn1 hn2 hA
  have hnew := blk_below (blk_new w (.cells #[.int .i64 0, .int .i64 0, .int .u64 0] 24 (0, 0))) hb
  have hbw := below_then ((Below.refl _ w).alloc (Nat.le_refl _) (.cells #[.int .i64 0, .int .i64 0, .int .u64 0] 24 (0, 0))) (by simp) hb
  have hn4 := blk_alloc hnew (.cells #[.int .u64 n0, .int .u64 n1, .int .u64 n2] 49 (0, 0))
  have hl4 := blk_new w1 (.cells #[.int .u64 n0, .int .u64 n1, .int .u64 n2] 49 (0, 0))
  have c0 := (blk_cell hn4 0).trans rfl
  have c1 := (blk_cell hn4 1).trans rfl
  have c2 := (blk_cell hn4 2).trans rfl
  have z0 := blk_frozen hn4 0
  have z1 := blk_frozen hn4 1
  have z2 := blk_frozen hn4 2
  have d0 := (blk_cell hl4 0).trans rfl
  have d1 := (blk_cell hl4 1).trans rfl
  have d2 := (blk_cell hl4 2).trans rfl
  have hbl : Below w.heap.size w (w1.alloc (.cells #[.int .u64 n0, .int .u64 n1, .int .u64 n2] 49 (0, 0))) := below_alloc hbw _
  have hle : w.heap.size ≤ w.heap.size := Nat.le_refl _
  have hfs := Tryd.underlying24
  cases ok
  · skip
    go_wp2
    refine bodyPost_ret (results_ct rfl _ _ w.heap.size 24 _ (0,0) _ rfl (blk_put (blk_put (blk_put hn4 0 (.int .i64 0) rfl) 1 (.int .i64 0) rfl) 2 (.int .u64 0) rfl) hfs rfl (by kernel_rfl)) rfl ?_
    obtain ⟨rfl, rfl, rfl, rfl⟩ : r1 = 0 ∧ r2 = 0 ∧ r3 = 0 ∧ r4 = false
      := by
        have hn : num3 a0 = none := by rcases HL.out with ⟨h, _⟩ | ⟨_, h⟩; cases h; exact h
        have h := H.out
        rw [hn] at h
        cases h
        exact ⟨rfl, rfl, rfl, rfl⟩
    exact ⟨rfl, below_set (below_set (below_set hbl hle) hle) hle⟩
  · have hn : Hid (num3 a0 = some l) := Lib.hid (by rcases HL.out with ⟨_, h⟩ | ⟨h, _⟩; exact h; cases h)
    by_cases ha : 2147483648 ≤ n0
    · have ha' : decide (2147483648 ≤ n0) = true := by simpa using ha
      go_wp2
      refine bodyPost_ret (results_ct rfl _ _ w.heap.size 24 _ (0,0) _ rfl (blk_put (blk_put (blk_put hn4 0 (.int .i64 0) rfl) 1 (.int .i64 0) rfl) 2 (.int .u64 0) rfl) hfs rfl (by kernel_rfl)) rfl ?_
      obtain ⟨rfl, rfl, rfl, rfl⟩ : r1 = 0 ∧ r2 = 0 ∧ r3 = 0 ∧ r4 = false
        := by
          have h := H.out
          rw [hn.out] at h
          dsimp only at h
          rw [if_neg (by have := H0.out; omega)] at h
          cases h
          exact ⟨rfl, rfl, rfl, rfl⟩
      exact ⟨rfl, below_set (below_set (below_set hbl hle) hle) hle⟩
    · have ha' : decide (2147483648 ≤ n0) = false := by simpa using ha
      by_cases hc : 2147483648 ≤ n1
      · have hc' : decide (2147483648 ≤ n1) = true := by simpa using hc
        go_wp2
        refine bodyPost_ret (results_ct rfl _ _ w.heap.size 24 _ (0,0) _ rfl (blk_put (blk_put (blk_put hn4 0 (.int .i64 0) rfl) 1 (.int .i64 0) rfl) 2 (.int .u64 0) rfl) hfs rfl (by kernel_rfl)) rfl ?_
        obtain ⟨rfl, rfl, rfl, rfl⟩ : r1 = 0 ∧ r2 = 0 ∧ r3 = 0 ∧ r4 = false
          := by
            have h := H.out
            rw [hn.out] at h
            dsimp only at h
            rw [if_neg (by have := H0.out; have := H1.out; omega)] at h
            cases h
            exact ⟨rfl, rfl, rfl, rfl⟩
        exact ⟨rfl, below_set (below_set (below_set hbl hle) hle) hle⟩
      · have hc' : decide (2147483648 ≤ n1) = false := by simpa using hc
        go_wp2
        refine bodyPost_ret (results_ct rfl _ _ w.heap.size 24 _ (0,0) _ rfl (blk_put (blk_put (blk_put hn4 0 (.int .i64 (wrap64 n0)) rfl) 1 (.int .i64 (wrap64 n1)) rfl) 2 (.int .u64 n2) rfl) hfs rfl (by kernel_rfl)) rfl ?_
        obtain ⟨rfl, rfl, rfl, rfl⟩ : r1 = wrap64 n0 ∧ r2 = wrap64 n1 ∧ r3 = n2 ∧ r4 = true
          := by
            have h := H.out
            rw [hn.out] at h
            dsimp only at h
            rw [if_pos (by have := H0.out; have := H1.out; omega)] at h
            have h0 := H0.out
            have h1 := H1.out
            have h2 := H2.out
            rw [h0, h1, h2] at h
            rw [wrap_small n0 (by omega) (by omega), wrap_small n1 (by omega) (by omega)]
            cases h
            exact ⟨rfl, rfl, rfl, rfl⟩
        exact ⟨rfl, below_set (below_set (below_set hbl hle) hle) hle⟩

end Go.Proofs.YtlbgepadkaehiaaDoor.Q
