/- The law SoundTwins answers true for every input, and leaves its arguments as they were. No condition. -/
import Derived.Test.YtbbpcbjgekencaaGreatDoorM14
import Derived.ChangeOld
import Derived.OpenShut
import Derived.ProofKit
import Derived.ShutString
import Derived.Test.YtbbpcbjgekencaaGreatDoorCards
import Derived.Test.YtbbpcbjgekencaaGreatDoorTie
section
set_option linter.unusedVariables false
set_option linter.unusedSimpArgs false
namespace Go.Proofs.YtbbpcbjgekencaaGreatDoor.soundTwins
open Go.ChangeShapes Go.WideShapes Go.ChangeAt Go.RowKit Go.Proofs.YtbbpcbjgekencaaGreatDoorW.PrintWords Go.Proofs.YtbbpcbjgekencaaGreatDoor.Opens Go.Proofs.YtbbpcbjgekencaaGreatDoor.Q
open Go.ChangeMaps (open_string shut_string)
set_option linter.unusedVariables false
theorem own : ownKnob Tryz.prog.godebug = none := by kernel_rfl
theorem laidOut : laidOutB Tryz.prog = true := by kernel_rfl
set_option maxHeartbeats 1000000 in
set_option maxRecDepth 100000 in
theorem lifted (os : Os) (started : os.Started) (H : Type) (enc : TypeId × Value → H) :
  ReturnsInHanded {} Tryz.checked os 9 .any (fun w args => (Rows.soundTwinsSpec.pre enc Tryz.prog Tryz.f9 Rows.soundTwinsRow.domain false w args ∧ laidMet Tryz.prog Laid.rows w) ∧ sizedMet enc Tryz.prog Tryz.f9 (OpenSpec.ofChange Rows.soundTwinsSpec) false w args) (Rows.soundTwinsSpec.post enc Tryz.prog Tryz.f9 false true false false) := by
 refine returnsInHanded_of_change_and (C := Tryz.checked) (X := fun w _ => laidMet Tryz.prog Laid.rows w) (fun _ _ _ hh h => h.of_heap hh) own started (by kernel_rfl) Tryz.func9
  (ChangeSpec.witness_at (enc := enc) (C := Tryz.checked) (os := os) (X := fun w _ => laidMet Tryz.prog Laid.rows w) false (Laid.laidWorld os) #[.agg #[.int .u8 0, .int .u8 0, .slice none 0 0, .slice none 0 0, .slice none 0 0, .int .u32 0, .int .u8 0, .slice none 0 0], .int .u8 0, .int .u8 0, .int .u64 0] 8 rfl (by kernel_rfl) (by kernel_rfl) (by kernel_rfl) (by kernel_rfl) (by kernel_rfl) (Laid.laidWorld_met os _)) ?_
 intro W base args ds gs before hval0 hW hcnd hsz0 hL _
 have hG := Laid.gl hL
 have hsz : (DataW.weightsEach Tryz.prog (Tryz.f9.params.toList ++ Rows.soundTwinsSpec.plain.varTypes Tryz.prog) (ds ++ gs)).all (· ≤ reachBytes) = true := hsz0
 have hval : ∀ (j : Nat) t v, Tryz.f9.params[j]? = some t → args[j]? = some v → Value.okWide Tryz.prog W .any base t v := hval0
 have hW' := hW
 obtain ⟨p, q, hA0, hV, rfl, hfz, hnd⟩ := hW
 have hA : DataW.TrodAll enc Tryz.prog W 0 (fun _ => true) true Tryz.f9.params.toList args.toList ds p := hA0
 rw [Tryz.params9] at hA hval hsz
 obtain ⟨v0, vs0, d0, ds0, p0, q0, hargs, rfl, rfl, h0, r0⟩ := trodAll_cons hA
 obtain ⟨v1, vs1, d1, ds1, p1, q1, rfl, rfl, rfl, h1, r1⟩ := trodAll_cons r0
 obtain ⟨v2, vs2, d2, ds2, p2, q2, rfl, rfl, rfl, h2, r2⟩ := trodAll_cons r1
 obtain ⟨v3, vs3, d3, ds3, p3, q3, rfl, rfl, rfl, h3, r3⟩ := trodAll_cons r2
 obtain ⟨rfl, rfl, rfl⟩ := trodAll_nil r3
 obtain rfl : args = #[v0, v1, v2, v3] := by cases args; simp_all
 obtain ⟨rfl, rfl⟩ := trodVars_none hV
 obtain ⟨cs0, rfl, hcs0⟩ := okWide_struct Tryz.underlying27 (hval 0 27 v0 rfl rfl)
 have k0 := h0
 have lt0 : ∀ x ∈ p0, x.block < W.heap.size := by obtain ⟨m, hm⟩ := k0; exact DataW.trod_lt m _ _ _ hm
 obtain ⟨z0, hK0, hw0⟩ : ∃ z, k27.K W z cs0.toList ∧ wf27 z := by
  obtain ⟨fuel, hf⟩ := h0
  exact op27 enc W 0 _ true fuel _ _ hf
 obtain ⟨A0_2, c0_2, A0_3, c0_3, A0_4, c0_4, A0_7, c0_7, he0, hc0_2, hC0_2, hc0_3, hC0_3, hc0_4, hC0_4, hc0_7, hC0_7⟩ := k27_open hK0
 obtain rfl : cs0 = #[.int .u8 z0.f0, .int .u8 z0.f1, .slice A0_2 z0.f2.length c0_2, .slice A0_3 z0.f3.length c0_3, .slice A0_4 z0.f4.length c0_4, .int .u32 z0.f5, .int .u8 z0.f6, .slice A0_7 z0.f7.length c0_7] := by rw [← Array.toArray_toList (xs := cs0), he0]
 obtain ⟨a1, rfl, rfl, rfl, w1⟩ := open_int Tryz.underlying5 (hval 1 5 v1 rfl rfl) h1
 obtain ⟨a2, rfl, rfl, rfl, w2⟩ := open_int Tryz.underlying5 (hval 2 5 v2 rfl rfl) h2
 obtain ⟨a3, rfl, rfl, rfl, w3⟩ := open_int Tryz.underlying33 (hval 3 33 v3 rfl rfl) h3
 clear hA0 hval0 hsz0 hsz
 obtain ⟨k, h⟩ := Go.Proofs.YtbbpcbjgekencaaGreatDoor.Pure.SoundTwins z0 a1 a2 a3 hw0 w1 w2 w3
 refine ((Go.Proofs.YtbbpcbjgekencaaGreatDoor.H.l16_SoundTwins.calls k z0.f0 z0.f1 _ _ z0.f2 _ _ z0.f3 _ _ z0.f4 z0.f5 z0.f6 _ _ z0.f7 a1 a2 a3 true W hC0_2 hc0_2 hC0_3 hc0_3 hC0_4 hc0_4 hC0_7 hc0_7 h) hG).mono fun e W' ⟨he, hd⟩ => ?_
 have bel : Below W.heap.size W W' := hd
 subst he
 exact ⟨_, rfl, _, _, _, [], _, [], hW', trodAll_mk1 (shut_bool Tryz.underlying4 _), (trodAll_cons_mk (Below.trod laidOut (by kernel_rfl) (of_decide_eq_true (by kernel_rfl)) k0 bel lt0) (trodAll_cons_mk (shut_int Tryz.underlying5 w1) (trodAll_cons_mk (shut_int Tryz.underlying5 w2) (trodAll_cons_mk (shut_int Tryz.underlying33 w3) trodAll_mk0)))), rfl, bel.frame _, fun h => by cases h⟩
theorem over : Rows.soundTwinsRow.holds Tryz.pinned (OpenSpec.ofChange Rows.soundTwinsSpec) :=
 OpenClaim.holds_of_wide 9 Tryz.f9 rfl rfl rfl rfl rfl rfl rfl ⟨rfl, rfl, rfl, rfl, rfl⟩ rfl rfl rfl rfl rfl (by kernel_rfl) Tryz.func9 (by kernel_rfl)
  (of_decide_eq_true (by kernel_rfl)) (by unfold Func.isWrapper; first | (rw [if_pos (by decide +kernel)]; kernel_rfl) | (rw [if_neg (by decide +kernel)]; exact ⟨rfl, rfl⟩))
  (fun os started H enc _ => lifted os started H enc)
end Go.Proofs.YtbbpcbjgekencaaGreatDoor.soundTwins
namespace Go.Proofs.YtbbpcbjgekencaaGreatDoor
set_option maxRecDepth 100000 in
theorem soundTwins_holds : Rows.SoundTwinsCardSaid :=
 Claim7.holds_tied_plain_at .later [] [.data] true (true, "dc4e9b891edc5c8b4494cbe6241a9cc58a248d5a50f9db53bc5e97807b5db03b") false
  soundTwins.over (fun _ h => by cases h) (by kernel_rfl) (fun _ h => by cases h) soundTwins_row_tie rfl ⟨rfl, rfl⟩ (by kernel_rfl) rfl
  (fun f fn hf hfn => by
   obtain rfl : f = 9 := Option.some.inj ((show Tryz.prog.funcNamed "lockfast/lockfastlaw16.SoundTwins" = some 9 by kernel_rfl).symm.trans hf) |>.symm
   obtain rfl : fn = Tryz.f9 := (Option.some.inj (Tryz.func9.symm.trans hfn)).symm
   exact ⟨by kernel_rfl, fun j t ht => by
    rw [Tryz.params9] at ht
    have hm := Array.mem_of_getElem? ht
    simp only [List.mem_toArray, List.mem_cons, List.not_mem_nil, or_false] at hm
    rcases hm with rfl | rfl | rfl | rfl <;> exact (show Tryz.prog.wantsStandIn _ = false by kernel_rfl)⟩)
  (by kernel_rfl)
end Go.Proofs.YtbbpcbjgekencaaGreatDoor
end
