/- The law OidUnlike answers true for every input, and leaves its arguments as they were. No condition. -/
import Derived.Test.YtlbgepadkaehiaaDoorRows
import Derived.Test.YtlbgepadkaehiaaDoorPureOidUnlike
import Derived.Test.YtlbgepadkaehiaaDoorLaid
import Derived.Test.YtlbgepadkaehiaaDoorCards
import Derived.Test.YtlbgepadkaehiaaDoorTie
import Derived.WalkKit
import Derived.ProofKit
import Derived.OpenShut
import Derived.ShutString
import Derived.ChangeOld
import Derived.Below
import Derived.SizedLaws
namespace Go.Proofs.YtlbgepadkaehiaaDoor.oidUnlike
open Go.ChangeShapes Go.WideShapes Go.ChangeAt Go.RowKit Go.Proofs.YtlbgepadkaehiaaDoorW.PrintWords Go.Proofs.YtlbgepadkaehiaaDoor.Opens Go.Proofs.YtlbgepadkaehiaaDoor.Q
open Go.ChangeMaps (open_string shut_string)
set_option linter.unusedVariables false
theorem own : ownKnob Tryd.prog.godebug = none := by kernel_rfl
theorem laidOut : laidOutB Tryd.prog = true := by kernel_rfl
set_option maxHeartbeats 1000000 in
set_option maxRecDepth 100000 in
theorem lifted (os : Os) (started : os.Started) (H : Type) (enc : TypeId × Value → H) :
    ReturnsInHanded {} Tryd.checked os 3 .any (fun w args => (Rows.oidUnlikeSpec.pre enc Tryd.prog Tryd.f3 Rows.oidUnlikeRow.domain false w args ∧ laidMet Tryd.prog Laid.rows w) ∧ sizedMet enc Tryd.prog Tryd.f3 (OpenSpec.ofChange Rows.oidUnlikeSpec) false w args) (Rows.oidUnlikeSpec.post enc Tryd.prog Tryd.f3 false true false false) := by
  refine returnsInHanded_of_change_and (C := Tryd.checked) (X := fun w _ => laidMet Tryd.prog Laid.rows w) (fun _ _ _ hh h => h.of_heap hh) own started (by kernel_rfl) Tryd.func3
    (ChangeSpec.witness_at (enc := enc) (C := Tryd.checked) (os := os) (X := fun w _ => laidMet Tryd.prog Laid.rows w) false (Laid.laidWorld os) #[.agg #[.int .i64 0, .int .i64 0, .int .u64 0], .agg #[.int .i64 0, .int .i64 0, .int .u64 0], .agg #[.int .i64 0, .int .i64 0, .int .u64 0], .agg #[.int .i64 0, .int .i64 0, .int .u64 0]] 8 rfl (by kernel_rfl) (by kernel_rfl) (by kernel_rfl) (by kernel_rfl) (by kernel_rfl) (Laid.laidWorld_met os _)) ?_
  intro W base args ds gs before hval0 hW hcnd hsz0 hL _
  have hG := Laid.gl hL
  have hsz : (DataW.weightsEach Tryd.prog (Tryd.f3.params.toList ++ Rows.oidUnlikeSpec.plain.varTypes Tryd.prog) (ds ++ gs)).all (· ≤ reachBytes) = true := hsz0
  have hval : ∀ (j : Nat) t v, Tryd.f3.params[j]? = some t → args[j]? = some v → Value.okWide Tryd.prog W .any base t v := hval0
  have hW' := hW
  obtain ⟨p, q, hA0, hV, rfl, hfz, hnd⟩ := hW
  have hA : DataW.TrodAll enc Tryd.prog W 0 (fun _ => true) true Tryd.f3.params.toList args.toList ds p := hA0
  rw [Tryd.params3] at hA hval hsz
  obtain ⟨v0, vs0, d0, ds0, p0, q0, hargs, rfl, rfl, h0, r0⟩ := trodAll_cons hA
  obtain ⟨v1, vs1, d1, ds1, p1, q1, rfl, rfl, rfl, h1, r1⟩ := trodAll_cons r0
  obtain ⟨v2, vs2, d2, ds2, p2, q2, rfl, rfl, rfl, h2, r2⟩ := trodAll_cons r1
  obtain ⟨v3, vs3, d3, ds3, p3, q3, rfl, rfl, rfl, h3, r3⟩ := trodAll_cons r2
  obtain ⟨rfl, rfl, rfl⟩ := trodAll_nil r3
  obtain rfl : args = #[v0, v1, v2, v3] := by cases args; simp_all
  obtain ⟨rfl, rfl⟩ := trodVars_none hV
  obtain ⟨cs0, rfl, hcs0⟩ := okWide_struct Tryd.underlying24 (hval 0 24 v0 rfl rfl)
  have k0 := h0
  have lt0 : ∀ x ∈ p0, x.block < W.heap.size := by obtain ⟨m, hm⟩ := k0; exact DataW.trod_lt m _ _ _ hm
  obtain ⟨z0, hK0, hw0⟩ : ∃ z, k24.K W z cs0.toList ∧ wf24 z := by
    obtain ⟨fuel, hf⟩ := h0
    exact op24 enc W 0 _ true fuel _ _ hf
  have he0 := k24_open hK0
  obtain rfl : cs0 = #[.int .i64 z0.f0, .int .i64 z0.f1, .int .u64 z0.f2] := by rw [← Array.toArray_toList (xs := cs0), he0]
  obtain ⟨cs1, rfl, hcs1⟩ := okWide_struct Tryd.underlying24 (hval 1 24 v1 rfl rfl)
  have k1 := h1
  have lt1 : ∀ x ∈ p1, x.block < W.heap.size := by obtain ⟨m, hm⟩ := k1; exact DataW.trod_lt m _ _ _ hm
  obtain ⟨z1, hK1, hw1⟩ : ∃ z, k24.K W z cs1.toList ∧ wf24 z := by
    obtain ⟨fuel, hf⟩ := h1
    exact op24 enc W 0 _ true fuel _ _ hf
  have he1 := k24_open hK1
  obtain rfl : cs1 = #[.int .i64 z1.f0, .int .i64 z1.f1, .int .u64 z1.f2] := by rw [← Array.toArray_toList (xs := cs1), he1]
  obtain ⟨cs2, rfl, hcs2⟩ := okWide_struct Tryd.underlying26 (hval 2 26 v2 rfl rfl)
  have k2 := h2
  have lt2 : ∀ x ∈ p2, x.block < W.heap.size := by obtain ⟨m, hm⟩ := k2; exact DataW.trod_lt m _ _ _ hm
  obtain ⟨z2, hK2, hw2⟩ : ∃ z, k26.K W z cs2.toList ∧ wf26 z := by
    obtain ⟨fuel, hf⟩ := h2
    exact op26 enc W 0 _ true fuel _ _ hf
  have he2 := k26_open hK2
  obtain rfl : cs2 = #[.int .i64 z2.f0, .int .i64 z2.f1, .int .u64 z2.f2] := by rw [← Array.toArray_toList (xs := cs2), he2]
  obtain ⟨cs3, rfl, hcs3⟩ := okWide_struct Tryd.underlying26 (hval 3 26 v3 rfl rfl)
  have k3 := h3
  have lt3 : ∀ x ∈ p3, x.block < W.heap.size := by obtain ⟨m, hm⟩ := k3; exact DataW.trod_lt m _ _ _ hm
  obtain ⟨z3, hK3, hw3⟩ : ∃ z, k26.K W z cs3.toList ∧ wf26 z := by
    obtain ⟨fuel, hf⟩ := h3
    exact op26 enc W 0 _ true fuel _ _ hf
  have he3 := k26_open hK3
  obtain rfl : cs3 = #[.int .i64 z3.f0, .int .i64 z3.f1, .int .u64 z3.f2] := by rw [← Array.toArray_toList (xs := cs3), he3]
  clear hA0 hval0 hsz0 hsz
  obtain ⟨k, h⟩ := Go.Proofs.YtlbgepadkaehiaaDoor.Pure.OidUnlike z0 z1 z2 z3 hw0 hw1 hw2 hw3
  refine ((lockfastlaw08_OidUnlike.calls k z0.f0 z0.f1 z0.f2 z1.f0 z1.f1 z1.f2 z2.f0 z2.f1 z2.f2 z3.f0 z3.f1 z3.f2 true W  h) hG).mono fun e W' ⟨he, hd⟩ => ?_
  have bel : Below W.heap.size W W' := hd
  subst he
  exact ⟨_, rfl, _, _, _, [], _, [], hW', trodAll_mk1 (shut_bool Tryd.underlying4 _), (trodAll_cons_mk (Below.trod laidOut (by kernel_rfl) (of_decide_eq_true (by kernel_rfl)) k0 bel lt0) (trodAll_cons_mk (Below.trod laidOut (by kernel_rfl) (of_decide_eq_true (by kernel_rfl)) k1 bel lt1) (trodAll_cons_mk (Below.trod laidOut (by kernel_rfl) (of_decide_eq_true (by kernel_rfl)) k2 bel lt2) (trodAll_cons_mk (Below.trod laidOut (by kernel_rfl) (of_decide_eq_true (by kernel_rfl)) k3 bel lt3) trodAll_mk0)))), rfl, bel.frame _, fun h => by cases h⟩
theorem over : Rows.oidUnlikeRow.holds Tryd.pinned (OpenSpec.ofChange Rows.oidUnlikeSpec) :=
  OpenClaim.holds_of_wide 3 Tryd.f3 rfl rfl rfl rfl rfl rfl rfl ⟨rfl, rfl, rfl, rfl, rfl⟩ rfl rfl rfl rfl rfl (by kernel_rfl) Tryd.func3 (by kernel_rfl)
    (of_decide_eq_true (by kernel_rfl)) (by unfold Func.isWrapper; first | (rw [if_pos (by decide +kernel)]; kernel_rfl) | (rw [if_neg (by decide +kernel)]; exact ⟨rfl, rfl⟩))
    (fun os started H enc _ => lifted os started H enc)
end Go.Proofs.YtlbgepadkaehiaaDoor.oidUnlike
namespace Go.Proofs.YtlbgepadkaehiaaDoor
set_option maxRecDepth 100000 in
theorem oidUnlike_holds : Rows.OidUnlikeCardSaid :=
  Claim7.holds_tied_plain_at .later [] [.data, .data, .data, .sentinel, .sentinel] true (true, "9bd44df2b3fb85e1b573aa11c166b8def14ca940d175c5ed8dd058a99f0fa192") true
    oidUnlike.over (fun _ h => by cases h) (by kernel_rfl) (fun _ h => by cases h) oidUnlike_row_tie rfl ⟨rfl, rfl⟩ (by kernel_rfl) rfl
    (fun f fn hf hfn => by
      obtain rfl : f = 3 := Option.some.inj ((show Tryd.prog.funcNamed "lockfast/lockfastlaw08.OidUnlike" = some 3 by kernel_rfl).symm.trans hf) |>.symm
      obtain rfl : fn = Tryd.f3 := (Option.some.inj (Tryd.func3.symm.trans hfn)).symm
      exact ⟨by kernel_rfl, fun j t ht => by
        rw [Tryd.params3] at ht
        have hm := Array.mem_of_getElem? ht
        simp only [List.mem_toArray, List.mem_cons, List.not_mem_nil, or_false] at hm
        rcases hm with rfl | rfl | rfl | rfl <;> exact (show Tryd.prog.wantsStandIn _ = false by kernel_rfl)⟩)
    (by kernel_rfl)
end Go.Proofs.YtlbgepadkaehiaaDoor
