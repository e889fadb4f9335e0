/- The law TileWhole answers true for every input, and leaves its arguments as they were. No condition. -/
import Derived.Test.YtflbmccjfnkflaaDoorRows
import Derived.Test.YtflbmccjfnkflaaDoorPureTileWhole
import Derived.Test.YtflbmccjfnkflaaDoorLaid
import Derived.Test.YtflbmccjfnkflaaDoorCards
import Derived.Test.YtflbmccjfnkflaaDoorTie
import Derived.WalkKit
import Derived.ProofKit
import Derived.OpenShut
import Derived.ShutString
import Derived.ChangeOld
import Derived.Below
import Derived.SizedLaws
namespace Go.Proofs.YtflbmccjfnkflaaDoor.tileWhole
open Go.ChangeShapes Go.WideShapes Go.ChangeAt Go.RowKit Go.Proofs.YtflbmccjfnkflaaDoorW.PrintWords Go.Proofs.YtflbmccjfnkflaaDoor.Opens Go.Proofs.YtflbmccjfnkflaaDoor.Q
open Go.ChangeMaps (open_string shut_string)
set_option linter.unusedVariables false
theorem own : ownKnob Tryd.prog.godebug = none := by kernel_rfl
theorem laidOut : laidOutB Tryd.prog = true := by kernel_rfl
set_option maxHeartbeats 1000000 in
set_option maxRecDepth 100000 in
theorem lifted (os : Os) (started : os.Started) (H : Type) (enc : TypeId × Value → H) :
    ReturnsInHanded {} Tryd.checked os 13 .any (fun w args => (Rows.tileWholeSpec.pre enc Tryd.prog Tryd.f13 Rows.tileWholeRow.domain false w args ∧ laidMet Tryd.prog Laid.rows w) ∧ sizedMet enc Tryd.prog Tryd.f13 (OpenSpec.ofChange Rows.tileWholeSpec) false w args) (Rows.tileWholeSpec.post enc Tryd.prog Tryd.f13 false true false false) := by
  refine returnsInHanded_of_change_and (C := Tryd.checked) (X := fun w _ => laidMet Tryd.prog Laid.rows w) (fun _ _ _ hh h => h.of_heap hh) own started (by kernel_rfl) Tryd.func13
    (ChangeSpec.witness_at (enc := enc) (C := Tryd.checked) (os := os) (X := fun w _ => laidMet Tryd.prog Laid.rows w) false (Laid.laidWorld os) #[.slice none 0 0] 8 rfl (by kernel_rfl) (by kernel_rfl) (by kernel_rfl) (by kernel_rfl) (by kernel_rfl) (Laid.laidWorld_met os _)) ?_
  intro W base args ds gs before hval0 hW hcnd hsz0 hL _
  have hG := Laid.gl hL
  have hsz : (DataW.weightsEach Tryd.prog (Tryd.f13.params.toList ++ Rows.tileWholeSpec.plain.varTypes Tryd.prog) (ds ++ gs)).all (· ≤ reachBytes) = true := hsz0
  have hval : ∀ (j : Nat) t v, Tryd.f13.params[j]? = some t → args[j]? = some v → Value.okWide Tryd.prog W .any base t v := hval0
  have hW' := hW
  obtain ⟨p, q, hA0, hV, rfl, hfz, hnd⟩ := hW
  have hA : DataW.TrodAll enc Tryd.prog W 0 (fun _ => true) true Tryd.f13.params.toList args.toList ds p := hA0
  rw [Tryd.params13] at hA hval hsz
  obtain ⟨v0, vs0, d0, ds0, p0, q0, hargs, rfl, rfl, h0, r0⟩ := trodAll_cons hA
  obtain ⟨rfl, rfl, rfl⟩ := trodAll_nil r0
  obtain rfl : args = #[v0] := by cases args; simp_all
  obtain ⟨rfl, rfl⟩ := trodVars_none hV
  obtain ⟨b0, len0, cap0, rfl⟩ := okWide_slice Tryd.underlying31 (hval 0 31 v0 rfl rfl)
  have k0 := h0
  have lt0 : ∀ x ∈ p0, x.block < W.heap.size := by obtain ⟨m, hm⟩ := k0; exact DataW.trod_lt m _ _ _ hm
  have y0 : len0 * 2 ≤ 140737488351232 := sized_any hsz (j := 0) (t := 31) rfl rfl Tryd.underlying31 (by kernel_rfl) h0
  obtain ⟨z0, hK0, hw0, hw0b⟩ : ∃ z, (Kd.slice 50 (Kd.int .u16)).K W z [Value.slice b0 len0 cap0] ∧ z.length ≤ maxLen ∧ ∀ x_ ∈ z, (Lit.int .u16 x_).wf = true := by
    obtain ⟨fuel, hf⟩ := h0
    exact (opens_slice Tryd.underlying31 (opens_int (k := .u16) Tryd.underlying50) (by kernel_rfl)) enc W 0 _ true fuel _ _ hf
  obtain ⟨A0, c0, he0, hc0, hC0⟩ := hK0
  injection he0 with he0
  injection he0 with e0a e0b e0c
  subst e0a e0b e0c
  clear hA0 hval0 hsz0 hsz
  obtain ⟨k, h⟩ := Go.Proofs.YtflbmccjfnkflaaDoor.Pure.TileWhole z0 hw0 y0 hw0b
  refine ((lockfastlaw11_TileWhole.calls k _ _ z0 true W hC0 hc0 h) hG).mono fun e W' ⟨he, hd⟩ => ?_
  have bel : Below W.heap.size W W' := hd
  subst he
  exact ⟨_, rfl, _, _, _, [], _, [], hW', trodAll_mk1 (shut_bool Tryd.underlying4 _), (trodAll_cons_mk (Below.trod laidOut (by kernel_rfl) (of_decide_eq_true (by kernel_rfl)) k0 bel lt0) trodAll_mk0), rfl, bel.frame _, fun h => by cases h⟩
theorem over : Rows.tileWholeRow.holds Tryd.pinned (OpenSpec.ofChange Rows.tileWholeSpec) :=
  OpenClaim.holds_of_wide 13 Tryd.f13 rfl rfl rfl rfl rfl rfl rfl ⟨rfl, rfl, rfl, rfl, rfl⟩ rfl rfl rfl rfl rfl (by kernel_rfl) Tryd.func13 (by kernel_rfl)
    (of_decide_eq_true (by kernel_rfl)) (by unfold Func.isWrapper; first | (rw [if_pos (by decide +kernel)]; kernel_rfl) | (rw [if_neg (by decide +kernel)]; exact ⟨rfl, rfl⟩))
    (fun os started H enc _ => lifted os started H enc)
end Go.Proofs.YtflbmccjfnkflaaDoor.tileWhole
namespace Go.Proofs.YtflbmccjfnkflaaDoor
set_option maxRecDepth 100000 in
theorem tileWhole_holds : Rows.TileWholeCardSaid :=
  Claim7.holds_tied_plain_at .later [] [.data] true (true, "6904b64a6878051cd764f350970974158eb0a6ce384e912b475017be150805aa") false
    tileWhole.over (fun _ h => by cases h) (by kernel_rfl) (fun _ h => by cases h) tileWhole_row_tie rfl ⟨rfl, rfl⟩ (by kernel_rfl) rfl
    (fun f fn hf hfn => by
      obtain rfl : f = 13 := Option.some.inj ((show Tryd.prog.funcNamed "lockfast/lockfastlaw11.TileWhole" = some 13 by kernel_rfl).symm.trans hf) |>.symm
      obtain rfl : fn = Tryd.f13 := (Option.some.inj (Tryd.func13.symm.trans hfn)).symm
      exact ⟨by kernel_rfl, fun j t ht => by
        rw [Tryd.params13] at ht
        have hm := Array.mem_of_getElem? ht
        simp only [List.mem_toArray, List.mem_cons, List.not_mem_nil, or_false] at hm
        rcases hm with rfl <;> exact (show Tryd.prog.wantsStandIn _ = false by kernel_rfl)⟩)
    (by kernel_rfl)
end Go.Proofs.YtflbmccjfnkflaaDoor
