-- Written by lfprint.py of this session's own, by way of the kit's print.py; with hand-made contracts.
import Derived.RangeFuncNested
import Derived.RangeFuncBound
import Derived.RangeFuncBox
import Derived.RangeFuncCalls
import Derived.RangeFuncLeaves
import Derived.Shelf.Abstract
import Derived.Shelf.RegionOpen
import Derived.OwnWalkIn
import Derived.TacticsInMore
import Derived.LoopNIn
import Derived.LoopIn
import Derived.Outline
import Derived.Test.YtccnoemcpmdeaaaQx0
namespace Go.Proofs.Ytccnoemcpmdeaaa.Q
open Go.RowKit Go.Proofs.YtccnoemcpmdeaaaW.PrintWords Go.Proofs.YtccnoemcpmdeaaaW.PrintLast Go.Proofs.YtccnoemcpmdeaaaW.PrintMore
attribute [local go_sem] max2_int min2_int max_two min_two max_three min_three max_four min_four   -- for this text's walks alone
set_option linter.unusedVariables false
set_option linter.unusedSimpArgs false

attribute [local go_sem] Oper.semAt_some

/-- The places of a piece's words, and of all pieces' words, one behind the other. -/
def plOne (s : S24) : List Nat := (List.range s.f1.toNat).map fun (k : Nat) => s.f0.toNat + k
def plAll (l : List S24) : List Nat := l.flatMap plOne
def plPairs (l : List S24) : List (Nat × Nat) := (plAll l).zipIdx.map fun p => (p.2, p.1)
def plFits (l : List S24) : Prop := (∀ s ∈ l, 0 ≤ s.f0 ∧ s.f0 ≤ 2199023255552 ∧ 0 ≤ s.f1 ∧ s.f1 ≤ 1048576) ∧ l.length ≤ 1048576
instance (l : List S24) : Decidable (plFits l) := by unfold plFits; infer_instance

theorem plOne_length (s : S24) : (plOne s).length = s.f1.toNat := by simp [plOne]
theorem plAll_cons (s : S24) (l : List S24) : plAll (s :: l) = plOne s ++ plAll l := by simp [plAll]
theorem plAll_append (l m : List S24) : plAll (l ++ m) = plAll l ++ plAll m := by simp [plAll]
theorem plAll_take_succ (l : List S24) (a : Nat) (h : a < l.length) : plAll (l.take (a + 1)) = plAll (l.take a) ++ plOne l[a] := by
  rw [List.take_succ_eq_append_getElem h, plAll_append]; simp [plAll]
theorem plAll_len_le (l : List S24) (h : ∀ s ∈ l, s.f1 ≤ 1048576) : (plAll l).length ≤ l.length * 1048576 := by
  induction l with
  | nil => simp [plAll]
  | cons s l ih =>
    have h1 := h s (by simp)
    have h2 := ih (fun t ht => h t (by simp [ht]))
    rw [plAll_cons, List.length_append, plOne_length, List.length_cons]
    omega
theorem plAll_take_le (l : List S24) (a : Nat) : (plAll (l.take a)).length ≤ (plAll l).length := by
  have h : plAll l = plAll (l.take a) ++ plAll (l.drop a) := by rw [← plAll_append, List.take_append_drop]
  rw [h, List.length_append]; omega
theorem plAll_at (l : List S24) (a k : Nat) (h : a < l.length) (hk : k < l[a].f1.toNat) : (plAll (l.take a)).length + k < (plAll l).length ∧ (plAll l)[(plAll (l.take a)).length + k]? = some (l[a].f0.toNat + k) := by
  have e : plAll l = plAll (l.take a) ++ (plOne l[a] ++ plAll (l.drop (a + 1))) := by
    rw [← List.append_assoc, ← plAll_take_succ l a h, ← plAll_append, List.take_append_drop]
  have hl : k < (plOne l[a]).length := by rw [plOne_length]; exact hk
  refine ⟨by rw [e]; simp; omega, ?_⟩
  rw [e, List.getElem?_append_right (by omega), Nat.add_sub_cancel_left, List.getElem?_append_left hl]
  simp [plOne, hk]
theorem plPairs_length (l : List S24) : (plPairs l).length = (plAll l).length := by simp [plPairs]
theorem plPairs_at (l : List S24) (n : Nat) : (plPairs l)[n]? = (plAll l)[n]?.map fun x => (n, x) := by
  simp [plPairs, List.getElem?_zipIdx]
  cases (plAll l)[n]? <;> simp
theorem plPairs_take (l : List S24) (a k : Nat) (h : a < l.length) (hk : k < l[a].f1.toNat) :
    (plPairs l).take ((plAll (l.take a)).length + k) ++ [((plAll (l.take a)).length + k, l[a].f0.toNat + k)] = (plPairs l).take ((plAll (l.take a)).length + k + 1) := by
  obtain ⟨h1, h2⟩ := plAll_at l a k h hk
  have h3 : (plPairs l)[(plAll (l.take a)).length + k]? = some ((plAll (l.take a)).length + k, l[a].f0.toNat + k) := by rw [plPairs_at, h2]; rfl
  obtain ⟨hlt, he⟩ := List.getElem?_eq_some_iff.1 h3
  rw [List.take_succ_eq_append_getElem hlt, he]

/-- The blocks below n₀, and those of one type, are as they were. -/
def KeepT (n₀ t : Nat) (W W' : World) : Prop := Below n₀ W W' ∧ ∀ (k : Nat) (cs : Array Value) (fr : Nat × Nat), W.heap[k]? = some (Obj.cells cs t fr) → W'.heap[k]? = some (Obj.cells cs t fr)
theorem KeepT.trans {n₀ t : Nat} {A B C : World} (h : KeepT n₀ t A B) (k : KeepT n₀ t B C) : KeepT n₀ t A C := ⟨h.1.trans k.1, fun i cs fr hi => k.2 i cs fr (h.2 i cs fr hi)⟩
theorem KeepT.refl (n₀ t : Nat) (A : World) : KeepT n₀ t A A := ⟨Below.refl _ _, fun _ _ _ h => h⟩
theorem KeepT.put {n₀ t : Nat} {w : World} (hn : n₀ ≤ w.heap.size) (W : World) (l : Nat) (o o' : Obj) (hl : w.heap.size ≤ l) (h : W.heap[l]? = some o) (hc : o.isCells = false) (hw : o.isWalk = false) : KeepT n₀ t W (W.putObj l o') :=
  ⟨belowK_b hn W l o o' hl h hc hw, fun k cs fr hk => by
    by_cases e : k = l
    · subst e; rw [hk] at h; cases h; cases hc
    · exact ((grownBy_putObj' W l o').block k (Array.getElem?_eq_some_iff.1 hk).1 (fun e' => e (by cases e'; rfl))).trans hk⟩

theorem keepT_appended {W w1 : World} {n₀ B b : Nat} {t t' e : TypeId} {size k : Nat} {v v' : Value} {xs : List Value} {tmp : Obj} (hv : Boxed W B t' v) (ht : t' ≠ t) (hrow : W.ownsRow b e size v k xs) (he : e ≠ t)
    (hg : (W.alloc tmp).grownBy w1 v.ownBlock) (hb : Below n₀ W (w1.setCell ⟨B, 0, none⟩ v')) : KeepT n₀ t W (w1.setCell ⟨B, 0, none⟩ v') := by
  refine ⟨hb, fun i cs fr hi => ?_⟩
  have hlt := (Array.getElem?_eq_some_iff.1 hi).1
  have h1 : (W.alloc tmp).heap[i]? = some (Obj.cells cs t fr) := (Below.heap_alloc W tmp i hlt).trans hi
  have h2 : w1.heap[i]? = some (Obj.cells cs t fr) := by
    refine (hg.block i (by simp; omega) (fun e' => ?_)).trans h1
    obtain ⟨cells, hc⟩ := own_typed hrow i e'.symm
    rw [hi] at hc; injection hc with hc; injection hc with _ h3; exact he h3.symm
  refine (Below.heap_setCell w1 ⟨B, 0, none⟩ v' i (fun e' => ?_)).trans h2
  subst e'
  rw [show W.heap[i]? = _ from hv] at hi; injection hi with hi; injection hi with _ h3; exact ht h3

set_option maxRecDepth 100000 in
set_option maxHeartbeats 4000000 in
theorem places_yields (F : Fence) (n : Nat) (hF : F.fn 27) (hro : F.round = none) (hn : 1 ≤ n) (l Bs n₀ : Nat) (A : Option Addr) (cap : Nat) (xs : List S24) (hfit : plFits xs)
    (w0 : World) (hn0 : w0.heap.size = n₀) (hC : Kd.C k24 w0 A xs.length xs) (J Jx : List (Nat × Nat) → World → Prop) (W : World) (hb0 : Below n₀ w0 W) (hJ : AbidesFrom W.heap.size J)
    (hY : ∀ pre x W1, J pre W1 → pre.length < (plAll xs).length → YieldAt F (n - 1) Try.prog l #[.int .i64 (x.1 : Int), .int .i64 (x.2 : Int)] W1 fun e W' =>
      (e = .returned (.bool true) ∧ J (pre ++ [x]) W' ∧ KeepT n₀ 24 W1 W') ∨ (e = .returned (.bool false) ∧ Jx (pre ++ [x]) W'))
    (hBs : W.cell? ⟨Bs, 0, none⟩ = some (.slice A xs.length cap)) (h0 : J [] W) :
    CallsIn F n Try.prog 27 #[.func (.yield l) #[] #[], .pointer (some ⟨Bs, 0, none⟩)] W fun e W' => (∃ v, e = .returned v) ∧
      ((∃ ys, ys = plPairs xs ∧ J ys W') ∨ (∃ pre, pre <+: plPairs xs ∧ Jx pre W')) := by
  refine callsIn_of_wp Try.func27 rfl hF ?_ hro
  simp only [Try.ntmps27, List.size_toArray, List.length_cons, List.length_nil, Nat.reduceAdd, Nat.reduceSub, Array.replicate_succ, Array.replicate_zero, List.push_toArray, List.append_toArray, List.nil_append, List.cons_append]
  have hlen : xs.length ≤ 1048576 := hfit.2
  gi_wp2
  gi_loopw [3, 9] (fun i j wr => ∃ a : Nat, a ≤ xs.length ∧ j = .int .i64 (a : Int) ∧ i = .int .i64 ((plAll (xs.take a)).length : Int) ∧ J ((plPairs xs).take (plAll (xs.take a)).length) wr ∧ Below n₀ W wr)
    (fun _ j _ => xs.length - (intOf j).toNat)
  case atStart => exact ⟨0, Nat.zero_le _, rfl, by simp [plAll], by simpa [plAll] using h0, Below.refl _ _⟩
  case round =>
    obtain ⟨a, ha, rfl, rfl, hJs, hbr⟩ := hrel
    have hbw : Below w0.heap.size w0 wr := by rw [hn0]; exact hb0.trans hbr
    have hCr := Aside0.mk (Kd.C_below hC hbw)
    by_cases hlt : a < xs.length
    · obtain ⟨ad, rfl, hx0, hx1⟩ := at_T24 hCr.out (a : Int) (by omega) (by omega)
      rw [Int.toNat_natCast] at hx0 hx1
      have hel : rd_T24 xs (a : Int) = xs[a] := by simp [rd_T24, hlt]
      rw [hel] at hx0 hx1
      have hf := hfit.1 xs[a] (List.getElem_mem hlt)
      obtain ⟨f0, hf0⟩ : ∃ f : Nat, xs[a].f0 = (f : Int) := ⟨xs[a].f0.toNat, by omega⟩
      obtain ⟨m, hm⟩ : ∃ m : Nat, xs[a].f1 = (m : Int) := ⟨xs[a].f1.toNat, by omega⟩
      rw [hf0] at hx0 hf
      rw [hm] at hx1 hf
      have HF0 := Aside0.mk hf0
      have HM := Aside0.mk hm
      clear hf0 hm hel
      gi_wp2
      obtain ⟨q0, hq0⟩ : ∃ q : Nat, (plAll (xs.take a)).length = q := ⟨_, rfl⟩
      rw [hq0] at hJs
      simp only [hq0]
      have HQ := Aside0.mk hq0
      clear hq0
      have hJo := hJ _ _ _ none hJs (World.grownBy_alloc wr (.cells #[.int .i64 ↑f0, .int .i64 ↑m] 24) none) (by simp)
      have hbx := blk_new wr (.cells #[.int .i64 ↑f0, .int .i64 ↑m] 24)
      have hbo : Below n₀ W (wr.alloc (.cells #[.int .i64 ↑f0, .int .i64 ↑m] 24)) := hbr.alloc (by have := hbr.size; have := hb0.size; omega) _
      obtain ⟨wo, hwo⟩ : ∃ wo, wr.alloc (.cells #[.int .i64 ↑f0, .int .i64 ↑m] 24) = wo := ⟨_, rfl⟩
      rw [hwo] at hJo hbx hbo ⊢
      clear hwo
      obtain ⟨b5, hb5⟩ : ∃ b : Nat, wr.heap.size = b := ⟨_, rfl⟩
      rw [hb5] at hbx
      simp only [hb5]
      clear hb5
      gi_loopw [3, 15] (fun i kk w2 => ∃ k q : Nat, k ≤ m ∧ kk = .int .i64 (k : Int) ∧ i = .int .i64 (q : Int) ∧ Aside0 (q = q0 + k) ∧ J ((plPairs xs).take q) w2 ∧ Below n₀ W w2 ∧ w2.heap[b5]? = some (.cells #[.int .i64 ↑f0, .int .i64 ↑m] 24 (0, 0)))
        (fun _ kk _ => m - (intOf kk).toNat)
      case atStart => exact ⟨0, q0, Nat.zero_le _, rfl, rfl, ⟨rfl⟩, hJo, hbo, hbx⟩
      case round =>
        obtain ⟨k, q, hk, rfl, rfl, HQ2, hJ2, hb2, hx2⟩ := hrel
        by_cases hkm : k < m
        · have hpl := plPairs_take xs a k hlt (by rw [HM.out]; omega)
          have hpa := plAll_at xs a k hlt (by rw [HM.out]; omega)
          rw [HQ.out, ← HQ2.out, HF0.out, Int.toNat_natCast] at hpl hpa
          obtain ⟨fn, tmps, assign, body, hy, hR⟩ := hY _ (q, f0 + k) wr hJ2 (by rw [List.length_take, plPairs_length]; omega)
          simp only [Int.natCast_add] at hy
          have hc0 := (blk_cell hx2 0).trans (show _ = some (.int .i64 (f0 : Int)) from rfl)
          have HP := Aside0.mk hpl
          have HPA := Aside0.mk hpa
          clear hpl hpa
          have hqb : q ≤ 1099511627776 := by
            have := plAll_len_le xs (fun s hs => (hfit.1 s hs).2.2.2)
            have := HPA.out.1
            omega
          gi_wp2
          refine hR.mono ?_
          rintro e W3 (⟨rfl, hJ3, hk3⟩ | ⟨rfl, hJx3⟩)
          · gi_wp2
            go_roundw
            case rel => exact ⟨k + 1, q + 1, by omega, by go_num, by go_num, ⟨by have := HQ2.out; omega⟩, by rw [← HP.out]; exact hJ3, hb2.trans hk3.1, hk3.2 _ _ _ hx2⟩
            case measure => simp [intOf]; omega
          · gi_wp2
            refine bodyPost_ret (results_none rfl _ _ _) rfl ?_
            exact ⟨⟨_, rfl⟩, .inr ⟨_, by rw [HP.out]; exact List.take_prefix _ _, hJx3⟩⟩
        · obtain rfl : k = m := by omega
          gi_wp2
          go_roundw
          case rel =>
            have e : (plAll (xs.take (a + 1))).length = q := by
              rw [plAll_take_succ xs a hlt, List.length_append, HQ.out, plOne_length, HM.out, HQ2.out, Int.toNat_natCast]
            exact ⟨a + 1, by omega, by go_num, by rw [e], by rw [e]; exact hJ2, hb2⟩
          case measure => simp [intOf]; omega
    · obtain rfl : a = xs.length := by omega
      gi_wp2
      go_end0
      exact ⟨⟨_, rfl⟩, .inl ⟨_, rfl, by rw [List.take_length, ← plPairs_length, List.take_length] at hJs; exact hJs⟩⟩

set_option maxHeartbeats 1000000 in
theorem places_in (F : Fence) (n : Nat) (hF : F.fn 24) (hro : F.round = none) (A : Option Addr) (len cap : Nat) (w : World) :
    CallsIn F n Try.prog 24 #[.slice A len cap] w fun e w' => e = .returned (.func (.func 27) #[] #[.pointer (some ⟨w.heap.size, 0, none⟩)]) ∧ w' = w.alloc (.cells #[.slice A len cap] 22) := by
  refine callsIn_of_wp Try.func24 rfl hF ?_ hro
  simp only [Try.ntmps24, List.size_toArray, List.length_cons, List.length_nil, Nat.reduceAdd, Nat.reduceSub, Array.replicate_succ, Array.replicate_zero, List.push_toArray, List.append_toArray, List.nil_append, List.cons_append]
  gi_wp2
  go_ret
  exact ⟨rfl, rfl⟩

/-- What places(l) hands back tells all places in order, or a part. -/
theorem places_stops (F : Fence) (n : Nat) (hF : F.fn 27) (hro : F.round = none) (hn : 1 ≤ n) (Bs n₀ : Nat) (A : Option Addr) (cap : Nat) (xs : List S24) (hfit : plFits xs)
    (w0 w : World) (hn0 : w0.heap.size = n₀) (hC : Kd.C k24 w0 A xs.length xs) (hb0 : Below n₀ w0 w) (hBs : Boxed w Bs 22 (.slice A xs.length cap)) :
    SeqStopsK F n Try.prog 27 #[.pointer (some ⟨Bs, 0, none⟩)] (fun x : Nat × Nat => #[Value.int .i64 (x.1 : Int), Value.int .i64 (x.2 : Int)]) (KeepT n₀ 24) (fun ys => ys = plPairs xs) (fun pre => pre <+: plPairs xs) (plAll xs).length w := by
  intro l J Jx W hW hJ _ hY h0
  have hle : n₀ ≤ w.heap.size := by have := hb0.size; omega
  exact places_yields F n hF hro hn l Bs n₀ A cap xs hfit w0 hn0 hC J Jx W (hb0.trans (hW.mono hle)) hJ hY ((hW.cell (p := ⟨Bs, 0, none⟩) hBs.lt).trans hBs.cell) h0

end Go.Proofs.Ytccnoemcpmdeaaa.Q
