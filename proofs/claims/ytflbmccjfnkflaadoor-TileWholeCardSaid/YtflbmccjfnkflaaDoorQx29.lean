-- Written by lfprint.py of this session's own, by way of the kit's print.py; with hand-made contracts.
import Derived.Shelf.SlSortCmp.Kit1
import Derived.Test.YtflbmccjfnkflaaDoorStable
import Derived.Lib.OwnBridge
import Derived.Lib.AppendIntMem
import Derived.Deep.LoopGhost
import Derived.Test.YtflbmccjfnkflaaDoorQx0
import Derived.Test.YtflbmccjfnkflaaDoorQx5
import Derived.Test.YtflbmccjfnkflaaDoorQx10
import Derived.Test.YtflbmccjfnkflaaDoorQx28
namespace Go.Proofs.YtflbmccjfnkflaaDoor.Q
open Go.RowKit Go.Proofs.YtflbmccjfnkflaaDoorW.PrintWords Go.Proofs.YtflbmccjfnkflaaDoorW.PrintLast Go.Proofs.YtflbmccjfnkflaaDoorW.PrintMore
attribute [local go_sem] max2_int min2_int max_two min_two max_three min_three max_four min_four   -- for this text's walks alone
set_option linter.unusedVariables false
set_option linter.unusedSimpArgs false

/-! ### tile_Logs: function 56 -/
open Go.Shelf Go.RowKit Go.Lib Go.Sort Go.Proofs.YtflbmccjfnkflaaDoor.StableSort
set_option linter.unusedVariables false
/-- The numbers of a lane's logs, in order of place. -/
def logIdx (xs : List S29) (lane : Int) : List Int := (xs.zipIdx.filter fun p => p.1.f0 == 4 && p.1.f2 == lane).map fun p => (p.2 : Int)
theorem logIdx_take (xs : List S29) (lane : Int) (a : Nat) (h : a < xs.length) : logIdx (xs.take (a + 1)) lane = logIdx (xs.take a) lane ++ (if xs[a].f0 = 4 ∧ xs[a].f2 = lane then [(a : Int)] else []) := by
  unfold logIdx
  rw [List.take_succ_eq_append_getElem h, List.zipIdx_append, List.filter_append, List.map_append]
  simp only [List.length_take, Nat.min_eq_left (Nat.le_of_lt h), Nat.zero_add, List.zipIdx_cons, List.zipIdx_nil]
  congr 1
  by_cases h1 : xs[a].f0 = 4
  · by_cases h2 : xs[a].f2 = lane
    · simp [h1, h2]
    · simp [h1, h2]
  · simp [h1]
theorem logIdx_len (xs : List S29) (lane : Int) : (logIdx xs lane).length ≤ xs.length := by
  unfold logIdx
  rw [List.length_map]
  exact Nat.le_trans (List.length_filter_le _ _) (by simp)
theorem logIdx_range (xs : List S29) (lane : Int) : ∀ z ∈ logIdx xs lane, 0 ≤ z ∧ z < (xs.length : Int) := by
  intro z hz
  obtain ⟨p, hp, rfl⟩ := List.mem_map.1 hz
  have := List.mem_zipIdx (List.mem_filter.1 hp).1
  omega
/-- A lane's logs, sorted by their numbers. -/
def logsOf (xs : List S29) (lane : Int) : List Int := (stab (ltOf fun x y => cmpI (manyAt xs x) (manyAt xs y)) (logIdx xs lane).toArray).toList
theorem cmpI_swo (K : Int → Int) : SWO (ltOf fun x y => cmpI (K x) (K y)) := by
  have e : (ltOf fun x y => cmpI (K x) (K y)) = ltK K := by
    funext x y
    have h : cmpI (K x) (K y) < 0 ↔ K x < K y := by
      unfold cmpI
      by_cases h1 : K x < K y
      · rw [if_pos h1]; simp [h1]
      · rw [if_neg h1]
        by_cases h2 : K x > K y
        · rw [if_pos h2]; simp [h1]
        · rw [if_neg h2]; simp [h1]
    exact decide_eq_decide.2 h
  rw [e]
  exact swo_ltK K
theorem logsOf_mem (xs : List S29) (lane : Int) : (logsOf xs lane).Perm (logIdx xs lane) := by
  have h := (stab_spec (cmpI_swo (manyAt xs)) (fun _ _ => True) (logIdx xs lane).toArray (fun _ _ _ _ _ _ => trivial)).2.1
  have h2 := h.2.2
  rw [← h.1] at h2
  rw [Array.extract_size] at h2
  rw [h.1, Array.extract_size] at h2
  simpa [logsOf] using h2
theorem logsOf_len (xs : List S29) (lane : Int) : (logsOf xs lane).length = (logIdx xs lane).length := (logsOf_mem xs lane).length_eq
theorem encL_map (n : Nat) (l : List Int) (h : ∀ z ∈ l, 0 ≤ z ∧ z < (n : Int)) : l.map (encL n) = encs (Value.int .i64) l := by
  unfold encs
  apply List.map_congr_left
  intro z hz
  unfold encL clN
  rw [if_pos (h z hz)]
/-- The sort, at a row of the call's own. -/
theorem logs_sort (n0 B : Nat) (A : Option Addr) (cap : Nat) (xs : List S29) (lane : Int) (v : Value) (w0 w : World) (hn : n0 ≤ w.heap.size) (hb : Below n0 w0 w)
    (hB : w.heap[B]? = some (.cells #[.slice A xs.length cap] 24 (0, 0))) (hC : Kd.R k29 29 w n0 (fun _ => True) (.slice A xs.length cap) xs)
    (hR : Kd.R (Kd.int .i64) 3 w n0 (fun _ => True) v (logIdx xs lane)) (h40 : (logIdx xs lane).length ≤ 40) :
    Calls Tryd.prog 87 #[v, .func (.func 88) #[] #[.pointer (some ⟨B, 0, none⟩)]] w fun e w' => e = .returned (.tuple #[]) ∧ Kd.R (Kd.int .i64) 3 w' n0 (fun _ => True) v (logsOf xs lane) ∧ Below n0 w0 w' := by
  have ho := Kd.own_of_R hR
  by_cases hv : (logIdx xs lane).length = 0
  · obtain ⟨A7, c7, rfl⟩ := Kd.R_slice hR
    rw [hv]
    refine (sort_nil A7 c7 _ w).mono ?_
    rintro e w' ⟨rfl, rfl⟩
    have e0 : logsOf xs lane = [] := List.length_eq_zero_iff.1 (by rw [logsOf_len, hv])
    have e1 := List.length_eq_zero_iff.1 hv
    rw [e1] at hR
    rw [e0]
    exact ⟨rfl, hR, hb⟩
  · have hx : 0 < xs.length := by have := logIdx_len xs lane; omega
    have hoe := ho
    rw [← encL_map xs.length _ (logIdx_range xs lane)] at hoe
    obtain ⟨g, cap2, rfl, hg0, hglt, hc1, hc2, hl, hH⟩ := holds_of_ownsRow hoe (by rintro rfl; rcases ho.2 with ⟨_, h⟩ | ⟨g, c, cur, e, _⟩; exact hv h; cases e)
    have hgt : ∃ cells, w.heap[g]? = some (.cells cells 3 (0, 0)) := own_typed ho g rfl
    obtain ⟨cg, hcg⟩ := hgt
    have hBg : B ≠ g := by
      intro e
      rw [e, hcg] at hB
      cases hB
    have hAg : ∀ ad, A = some ad → ad.block ≠ g := by
      rintro ad rfl e
      obtain ⟨_, inner, hown, _⟩ := hC
      obtain ⟨cells, hcc⟩ := own_typed hown g (by rw [← e]; rfl)
      rw [hcg] at hcc
      cases hcc
    have hCC : Kd.C k29 w A xs.length xs := (Kd.R_reads' hC).2.2
    have hlay := logs_lays B g A cap xs hx w ((blk_cell hB 0).trans rfl) hCC hglt hBg hAg (logIdx xs lane).toArray.size
    have hsort := st_sort (encL xs.length) (fun x y => cmpI (manyAt xs x) (manyAt xs y)) 88 #[.pointer (some ⟨B, 0, none⟩)] g cap2 (logIdx xs lane).toArray w enters_logs hlay ⟨fun _ => rfl, hH, hglt⟩ (by simpa using h40)
    rw [List.size_toArray] at hsort
    refine hsort.mono ?_
    rintro e w' ⟨rfl, m, os, rfl⟩
    refine ⟨rfl, ?_, ?_⟩
    · have hu := ownsRow_putRow (q := m) (k := (logIdx xs lane).length) (ys := logsOf xs lane) hoe (logsOf_len xs lane) (Nat.le_refl _)
      rw [List.take_of_length_le (Nat.le_of_eq (logsOf_len xs lane)), encL_map xs.length _ (fun z hz => logIdx_range xs lane z ((logsOf_mem xs lane).mem_iff.1 hz))] at hu
      have e1 : (logsOf xs lane).toArray = stab (ltOf fun x y => cmpI (manyAt xs x) (manyAt xs y)) (logIdx xs lane).toArray := Array.toArray_toList
      rw [e1] at hu
      have hu2 : (sortWorld (encL xs.length) w g 0 m (stab (ltOf fun x y => cmpI (manyAt xs x) (manyAt xs y)) (logIdx xs lane).toArray) os).ownsRow n0 3 1 (.slice (some ⟨g, 0, none⟩) (logIdx xs lane).length cap2) (logIdx xs lane).length (encs (Value.int .i64) (logsOf xs lane)) := by
        refine own_move hu fun k hk => ?_
        obtain rfl : g = k := by simpa [Value.ownBlock] using hk
        exact heap_grow_old _ _ (by rw [Go.Sort.size_putRow]; exact hglt)
      refine Kd.R_of_own (by rw [logsOf_len]; exact hu2) (fun _ _ => trivial)
    · unfold sortWorld
      have h1 := below_putRow (q := m) (enc := encL xs.length) (d := stab (ltOf fun x y => cmpI (manyAt xs x) (manyAt xs y)) (logIdx xs lane).toArray) hb hg0
      exact h1.trans ((below_grow _ _ (Nat.le_refl _) 0 os).mono (by rw [Go.Sort.size_putRow]; exact hn))
theorem box_over {W W1 : World} {B : Nat} {T e : TypeId} {cs : Array Value} {v : Value} (hx : W.heap[B]? = some (.cells cs T (0, 0))) (ho : ∀ k, v.ownBlock = some k → ∃ cells, W.heap[k]? = some (.cells cells e (0, 0))) (hne : T ≠ e) (hg : W.grownBy W1 v.ownBlock) : W1.heap[B]? = some (.cells cs T (0, 0)) := by
  refine (hg.block B (Array.getElem?_eq_some_iff.1 hx).1 (fun h => ?_)).trans hx
  obtain ⟨cc, hcc⟩ := ho B h.symm
  rw [hx] at hcc
  injection hcc with hcc
  injection hcc with _ h2 _
  exact hne h2
set_option maxRecDepth 100000 in
set_option maxHeartbeats 8000000 in
theorem logs_walk (k : Nat) (A0 : Option Addr) (c0 : Nat) (l0 : List Int) (a1 : Int) (r1 : List S29) (r2 : Bool) (w : World) (hG : Gl w) (hr0 : Kd.C (Kd.int .u64) w A0 l0.length l0) (hc0 : l0.length ≤ c0) (h : tile_Chunks.f k l0 = some (r1, r2)) (hxs : r1.length ≤ 1048576) (h40 : (logIdx r1 a1).length ≤ 40) :
    Calls Tryd.prog 56 #[.slice A0 l0.length c0, .int .i64 a1] w fun e w' => ∃ v, e = .returned v ∧ Kd.R (Kd.int .i64) 3 w' w.heap.size (fun _ => True) v (logsOf r1 a1) ∧ Below w.heap.size w w' := by
  have hch : Calls Tryd.prog 16 #[.slice A0 l0.length c0] w _ := (tile_Chunks.calls k A0 c0 l0 r1 r2 w hr0 hc0 h) hG
  have HCH := Lib.hid hch
  have H40 := Lib.hid h40
  have HXS := Lib.hid hxs
  clear hch hr0 h hG h40 hxs
  go_enter Tryd.func56, Tryd.ntmps56
  go_wp2_with (go_at_call 16; refine HCH.out.mono ?_; rintro e w1 ⟨v0, rfl, hR, hb⟩; obtain ⟨A, cap, rfl⟩ := Kd.R_slice hR)
  have hR2 : Kd.R k29 29 (w1.alloc (.cells #[.slice A r1.length cap] 24)) w.heap.size (fun _ => True) (.slice A r1.length cap) r1 := by (with_reducible apply Kd.R_alloc); exact hR
  have hBx := blk_new w1 (.cells #[.slice A r1.length cap] 24)
  have hb2 : Below w.heap.size w (w1.alloc (.cells #[.slice A r1.length cap] 24)) := hb.alloc hb.size _
  generalize w1.alloc (.cells #[.slice A r1.length cap] 24) = w2 at hR2 hBx hb2 ⊢
  obtain ⟨B, hBe⟩ : ∃ B, w1.heap.size = B := ⟨_, rfl⟩
  rw [hBe] at hBx ⊢
  have HR2 := Lib.hid hR2
  have HBX := Lib.hid hBx
  have HB2 := Lib.hid hb2
  clear hR hb hR2 hBx hb2 HCH hBe
  go_loopg [7, 17] r1.length (fun gq v7 v17 wr => ∃ i : Nat, v17 = .int .i64 (i : Int) ∧ i ≤ r1.length ∧ r1.length - i ≤ gq ∧ Hid (Kd.R (Kd.int .i64) 3 wr w.heap.size (fun _ => True) v7 (logIdx (r1.take i) a1)) ∧ Hid (Kd.R k29 29 wr w.heap.size (fun _ => True) (.slice A r1.length cap) r1) ∧ Hid (wr.heap[B]? = some (.cells #[.slice A r1.length cap] 24 (0, 0))) ∧ Hid (Below w.heap.size w wr))
  case atStart => exact ⟨0, rfl, Nat.zero_le _, Nat.le_refl _, Kd.R_nil _ _ _ _ _, HR2, HBX, HB2⟩
  case round =>
    clear HR2 HBX HB2
    obtain ⟨i, rfl, hi, hg1, HO, HC, HX, HB⟩ := hrel
    by_cases hlt : i < r1.length
    · have hltz : (i : Int) < (r1.length : Int) := by omega
      have h0z : (0 : Int) ≤ (i : Int) := by omega
      obtain ⟨ad, e1, hx0, hx1, hx2, hx3, hx4⟩ := at_T29 (Kd.R_reads' HC.out).2.2 (i : Int) h0z hltz
      subst e1
      rw [Int.toNat_natCast] at hx0 hx1 hx2 hx3 hx4
      have hrd : rd_T29 r1 (i : Int) = r1[i] := by unfold rd_T29; simp [hlt]
      have HTK := Lib.hid (logIdx_take r1 a1 i hlt)
      have HLE := Lib.hid (Nat.le_trans (logIdx_len (r1.take i) a1) (by rw [List.length_take]; exact Nat.min_le_left i _))
      rw [hrd] at hx0 hx1 hx2 hx3 hx4
      obtain ⟨c, hc⟩ : ∃ c, r1[i] = c := ⟨_, rfl⟩
      rw [hc] at hx0 hx1 hx2 hx3 hx4 HTK
      obtain ⟨x7, hx7⟩ : ∃ x7, logIdx (r1.take i) a1 = x7 := ⟨_, rfl⟩
      rw [hx7] at HO HTK HLE
      clear hrd hc hx7
      have hO1 : Kd.R (Kd.int .i64) 3 (wr.alloc (.cells #[.int .i64 c.f0, .int .i64 c.f1, .int .i64 c.f2, .int .i64 c.f3, .int .u64 c.f4] 29)) w.heap.size (fun _ => True) u7 x7 := by (with_reducible apply Kd.R_alloc); exact HO.out
      have hC1 : Kd.R k29 29 (wr.alloc (.cells #[.int .i64 c.f0, .int .i64 c.f1, .int .i64 c.f2, .int .i64 c.f3, .int .u64 c.f4] 29)) w.heap.size (fun _ => True) (.slice (some ad) r1.length cap) r1 := by (with_reducible apply Kd.R_alloc); exact HC.out
      have hX1 : (wr.alloc (.cells #[.int .i64 c.f0, .int .i64 c.f1, .int .i64 c.f2, .int .i64 c.f3, .int .u64 c.f4] 29)).heap[B]? = some (.cells #[.slice (some ad) r1.length cap] 24 (0, 0)) := blk_alloc HX.out _
      have hB1 : Below w.heap.size w (wr.alloc (.cells #[.int .i64 c.f0, .int .i64 c.f1, .int .i64 c.f2, .int .i64 c.f3, .int .u64 c.f4] 29)) := HB.out.alloc HB.out.size _
      have HO1 := Lib.hid hO1
      have HC1 := Lib.hid hC1
      have HX1 := Lib.hid hX1
      have HB1 := Lib.hid hB1
      clear hO1 hC1 hX1 hB1 HO HC HX HB
      by_cases hk : c.f0 = 4
      · have hkb : (c.f0 == 4) = true := beq_iff_eq.mpr hk
        by_cases hl : c.f2 = a1
        · have hlb : (c.f2 == a1) = true := beq_iff_eq.mpr hl
          rw [if_pos ⟨hk, hl⟩] at HTK
          have HL8 : (x7.length + 1) * 8 ≤ 140737488355328 := by have h1 := HLE.out; have h2 := HXS.out; omega
          clear hk hl
          go_wp2_with (first | ((with_reducible refine gate_builtin (b := .append) (xs := #[.tmp 31, .tmp 33]) rfl ?_); at_builtin; refine Kd.R_append (Kd.int .i64) (w0 := w) w.heap.size rfl (.tmp 31) (.tmp 33) 77 3 (.int .i64 0) 8 rfl Tryd.underlying77 info3 rfl (by decide) (by omega) u7 x7 (i : Int) [.int .i64 (i : Int)] (fun _ => True) (fun _ => False) rfl (congrArg (fun n => Value.slice (some ⟨n, 0, none⟩) 1 1) (Array.size_push _).symm) ?aP (fun _ hk => hk.elim) ?aF ?aO ?aB ?aS ?aL ?_; (case aP => exact rfl); (case aB => exact HB1.out); (case aF => exact (fun _ _ => trivial)); (case aO => exact HO1.out); (case aS => exact HB1.out.size); (case aL => exact HL8); intro v7 w5 ho hb hg hat; have hC2 := Lib.hid (Kd.R_over' HC1.out (Kd.R_typed HO1.out) (by decide) hg); have hX2 := Lib.hid (box_over HX1.out (own_typed (Kd.own_of_R HO1.out)) (by decide) hg); have hO2 := Lib.hid ho; have hB2 := Lib.hid hb; clear ho hb hg hat HC1 HX1 HO1 HB1))
          go_roundg (r1.length - (i + 1))
          case measure => omega
          case rel => exact ⟨i + 1, by first | rfl | go_num | (congr 1; unfold wrap64; have := HXS.out; omega), by omega, Nat.le_refl _, by rw [HTK.out]; exact hO2.out, hC2.out, hX2.out, hB2.out⟩
        · have hlb : (c.f2 == a1) = false := beq_eq_false_iff_ne.mpr hl
          rw [if_neg (fun h => hl h.2), List.append_nil] at HTK
          clear hk hl
          go_wp2_with fail
          go_roundg (r1.length - (i + 1))
          case measure => omega
          case rel => exact ⟨i + 1, by first | rfl | go_num | (congr 1; unfold wrap64; have := HXS.out; omega), by omega, Nat.le_refl _, by rw [HTK.out]; exact HO1.out, HC1.out, HX1.out, HB1.out⟩
      · have hkb : (c.f0 == 4) = false := beq_eq_false_iff_ne.mpr hk
        rw [if_neg (fun h => hk h.1), List.append_nil] at HTK
        clear hk
        go_wp2_with fail
        go_roundg (r1.length - (i + 1))
        case measure => omega
        case rel => exact ⟨i + 1, by first | rfl | go_num | (congr 1; unfold wrap64; have := HXS.out; omega), by omega, Nat.le_refl _, by rw [HTK.out]; exact HO1.out, HC1.out, HX1.out, HB1.out⟩
    · have hltz : ¬ (i : Int) < (r1.length : Int) := by omega
      obtain rfl : i = r1.length := by omega
      rw [List.take_length] at HO
      have hsort := logs_sort w.heap.size B A cap r1 a1 _ w wr HB.out.size HB.out HX.out HC.out HO.out H40.out
      have HS := Lib.hid hsort
      clear hsort
      go_wp2_with fail
      refine HS.out.mono ?_
      rintro e w3 ⟨rfl, h1, h2⟩
      have H1 := Lib.hid h1
      have H2 := Lib.hid h2
      clear h1 h2 HS HO HC HX HB
      go_wp2
      go_ret
      exact ⟨_, rfl, H1.out, H2.out⟩
def tile_Logs.f (k : Nat) (l0 : List Int) (a1 : Int) : Option (List Int) := (tile_Chunks.f k l0).bind fun x => if x.1.length ≤ 1048576 ∧ (logIdx x.1 a1).length ≤ 40 then some (logsOf x.1 a1) else none
theorem tile_Logs.mono (a0 : List Int) (a1 : Int) (k : Nat) : LeO (tile_Logs.f k a0 a1) (tile_Logs.f (k + 1) a0 a1) := by
  unfold tile_Logs.f
  intro r h
  obtain ⟨x, hx, h⟩ := Option.bind_eq_some_iff.mp h
  exact Option.bind_eq_some_iff.mpr ⟨x, tile_Chunks.mono _ _ _ hx, h⟩
theorem tile_Logs.calls (k : Nat) (A0 : Option Addr) (c0 : Nat) (l0 : List Int) (a1 : Int) (r : List Int) (w : World) (hr0 : Kd.C (Kd.int .u64) w A0 l0.length l0) (hc0 : l0.length ≤ c0) (h : tile_Logs.f k l0 a1 = some r) :
    CallsG 56 #[.slice A0 l0.length c0, .int .i64 a1] w fun e w' => ∃ v0_ : Value, e = .returned v0_ ∧ Kd.R (Kd.int .i64) 3 w' w.heap.size (fun _ => True) v0_ r ∧ Below w.heap.size w w' := by
  intro hG
  unfold tile_Logs.f at h
  obtain ⟨⟨r1, r2⟩, hx, h⟩ := Option.bind_eq_some_iff.mp h
  split at h
  case isFalse => cases h
  case isTrue hf =>
  cases h
  exact logs_walk k A0 c0 l0 a1 r1 r2 w hG hr0 hc0 hx hf.1 hf.2

end Go.Proofs.YtflbmccjfnkflaaDoor.Q
