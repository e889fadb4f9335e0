/- The law SoundGiven answers true for every input, and leaves its arguments as they were. No condition. -/
import Derived.Test.YtbbpcbjgekencaaGreatDoorM16
import Derived.ChangeOld
import Derived.OpenShut
import Derived.ProofKit
import Derived.ShutString
import Derived.Test.YtbbpcbjgekencaaGreatDoorCards
import Derived.Test.YtbbpcbjgekencaaGreatDoorTie
section
set_option linter.unusedVariables false
set_option linter.unusedSimpArgs false
namespace Go.Proofs.YtbbpcbjgekencaaGreatDoor.soundGiven
open Go.ChangeShapes Go.WideShapes Go.ChangeAt Go.RowKit Go.Proofs.YtbbpcbjgekencaaGreatDoorW.PrintWords Go.Proofs.YtbbpcbjgekencaaGreatDoor.Opens Go.Proofs.YtbbpcbjgekencaaGreatDoor.Q
open Go.ChangeMaps (open_string shut_string)
set_option linter.unusedVariables false
theorem own : ownKnob Tryz.prog.godebug = none := by kernel_rfl
theorem laidOut : laidOutB Tryz.prog = true := by kernel_rfl
set_option maxHeartbeats 1000000 in
set_option maxRecDepth 100000 in
theorem lifted (os : Os) (started : os.Started) (H : Type) (enc : TypeId × Value → H) :
  ReturnsInHanded {} Tryz.checked os 4 .any (fun w args => (Rows.soundGivenSpec.pre enc Tryz.prog Tryz.f4 Rows.soundGivenRow.domain false w args ∧ laidMet Tryz.prog Laid.rows w) ∧ sizedMet enc Tryz.prog Tryz.f4 (OpenSpec.ofChange Rows.soundGivenSpec) false w args) (Rows.soundGivenSpec.post enc Tryz.prog Tryz.f4 false true false false) := by
 refine returnsInHanded_of_change_and (C := Tryz.checked) (X := fun w _ => laidMet Tryz.prog Laid.rows w) (fun _ _ _ hh h => h.of_heap hh) own started (by kernel_rfl) Tryz.func4
  (ChangeSpec.witness_at (enc := enc) (C := Tryz.checked) (os := os) (X := fun w _ => laidMet Tryz.prog Laid.rows w) false (Laid.laidWorld os) #[.agg #[.int .u8 0, .int .u8 0, .slice none 0 0, .slice none 0 0, .slice none 0 0, .int .u64 0, .int .u64 0, .slice none 0 0]] 8 rfl (by kernel_rfl) (by kernel_rfl) (by kernel_rfl) (by kernel_rfl) (by kernel_rfl) (Laid.laidWorld_met os _)) ?_
 intro W base args ds gs before hval0 hW hcnd hsz0 hL _
 have hG := Laid.gl hL
 have hsz : (DataW.weightsEach Tryz.prog (Tryz.f4.params.toList ++ Rows.soundGivenSpec.plain.varTypes Tryz.prog) (ds ++ gs)).all (· ≤ reachBytes) = true := hsz0
 have hval : ∀ (j : Nat) t v, Tryz.f4.params[j]? = some t → args[j]? = some v → Value.okWide Tryz.prog W .any base t v := hval0
 have hW' := hW
 obtain ⟨p, q, hA0, hV, rfl, hfz, hnd⟩ := hW
 have hA : DataW.TrodAll enc Tryz.prog W 0 (fun _ => true) true Tryz.f4.params.toList args.toList ds p := hA0
 rw [Tryz.params4] at hA hval hsz
 obtain ⟨v0, vs0, d0, ds0, p0, q0, hargs, rfl, rfl, h0, r0⟩ := trodAll_cons hA
 obtain ⟨rfl, rfl, rfl⟩ := trodAll_nil r0
 obtain rfl : args = #[v0] := by cases args; simp_all
 obtain ⟨rfl, rfl⟩ := trodVars_none hV
 obtain ⟨cs0, rfl, hcs0⟩ := okWide_struct Tryz.underlying47 (hval 0 47 v0 rfl rfl)
 have k0 := h0
 have lt0 : ∀ x ∈ p0, x.block < W.heap.size := by obtain ⟨m, hm⟩ := k0; exact DataW.trod_lt m _ _ _ hm
 obtain ⟨z0, hK0, hw0⟩ : ∃ z, k47.K W z cs0.toList ∧ wf47 z := by
  obtain ⟨fuel, hf⟩ := h0
  exact op47 enc W 0 _ true fuel _ _ hf
 obtain ⟨A0_2, c0_2, A0_3, c0_3, A0_4, c0_4, A0_7, c0_7, he0, hc0_2, hC0_2, hc0_3, hC0_3, hc0_4, hC0_4, hc0_7, hC0_7⟩ := k47_open hK0
 obtain rfl : cs0 = #[.int .u8 z0.f0, .int .u8 z0.f1, .slice A0_2 z0.f2.length c0_2, .slice A0_3 z0.f3.length c0_3, .slice A0_4 z0.f4.length c0_4, .int .u64 z0.f5, .int .u64 z0.f6, .slice A0_7 z0.f7.length c0_7] := by rw [← Array.toArray_toList (xs := cs0), he0]
 clear hA0 hval0 hsz0 hsz
 obtain ⟨k, h⟩ := Go.Proofs.YtbbpcbjgekencaaGreatDoor.Pure.SoundGiven z0 hw0
 refine ((Go.Proofs.YtbbpcbjgekencaaGreatDoor.H.l16_SoundGiven.calls k z0.f0 z0.f1 _ _ z0.f2 _ _ z0.f3 _ _ z0.f4 z0.f5 z0.f6 _ _ z0.f7 true W hC0_2 hc0_2 hC0_3 hc0_3 hC0_4 hc0_4 hC0_7 hc0_7 h) hG).mono fun e W' ⟨he, hd⟩ => ?_
 have bel : Below W.heap.size W W' := hd
 subst he
 exact ⟨_, rfl, _, _, _, [], _, [], hW', trodAll_mk1 (shut_bool Tryz.underlying4 _), (trodAll_cons_mk (Below.trod laidOut (by kernel_rfl) (of_decide_eq_true (by kernel_rfl)) k0 bel lt0) trodAll_mk0), rfl, bel.frame _, fun h => by cases h⟩
theorem over : Rows.soundGivenRow.holds Tryz.pinned (OpenSpec.ofChange Rows.soundGivenSpec) :=
 OpenClaim.holds_of_wide 4 Tryz.f4 rfl rfl rfl rfl rfl rfl rfl ⟨rfl, rfl, rfl, rfl, rfl⟩ rfl rfl rfl rfl rfl (by kernel_rfl) Tryz.func4 (by kernel_rfl)
  (of_decide_eq_true (by kernel_rfl)) (by unfold Func.isWrapper; first | (rw [if_pos (by decide +kernel)]; kernel_rfl) | (rw [if_neg (by decide +kernel)]; exact ⟨rfl, rfl⟩))
  (fun os started H enc _ => lifted os started H enc)
end Go.Proofs.YtbbpcbjgekencaaGreatDoor.soundGiven
namespace Go.Proofs.YtbbpcbjgekencaaGreatDoor
set_option maxRecDepth 100000 in
theorem soundGiven_holds : Rows.SoundGivenCardSaid :=
 Claim7.holds_tied_plain_at .later [] [.data] true (true, "dc4e9b891edc5c8b4494cbe6241a9cc58a248d5a50f9db53bc5e97807b5db03b") false
  soundGiven.over (fun _ h => by cases h) (by kernel_rfl) (fun _ h => by cases h) soundGiven_row_tie rfl ⟨rfl, rfl⟩ (by kernel_rfl) rfl
  (fun f fn hf hfn => by
   obtain rfl : f = 4 := Option.some.inj ((show Tryz.prog.funcNamed "lockfast/lockfastlaw16.SoundGiven" = some 4 by kernel_rfl).symm.trans hf) |>.symm
   obtain rfl : fn = Tryz.f4 := (Option.some.inj (Tryz.func4.symm.trans hfn)).symm
   exact ⟨by kernel_rfl, fun j t ht => by
    rw [Tryz.params4] at ht
    have hm := Array.mem_of_getElem? ht
    simp only [List.mem_toArray, List.mem_cons, List.not_mem_nil, or_false] at hm
    rcases hm with rfl <;> exact (show Tryz.prog.wantsStandIn _ = false by kernel_rfl)⟩)
  (by kernel_rfl)
end Go.Proofs.YtbbpcbjgekencaaGreatDoor
end
