/- The law PieceBack answers true for every input, and leaves its arguments as they were. No condition. -/
import Derived.Test.YtccnoemcpmdeaaaRows
import Derived.Test.YtccnoemcpmdeaaaPurePieceBack
import Derived.WalkKit
import Derived.ProofKit
import Derived.OpenShut
import Derived.ShutString
import Derived.ChangeOld
import Derived.Below
import Derived.SizedLaws
namespace Go.Proofs.Ytccnoemcpmdeaaa.pieceBack
open Go.ChangeShapes Go.WideShapes Go.ChangeAt Go.RowKit Go.Proofs.YtccnoemcpmdeaaaW.PrintWords Go.Proofs.Ytccnoemcpmdeaaa.Opens Go.Proofs.Ytccnoemcpmdeaaa.Q
open Go.ChangeMaps (open_string shut_string)
set_option linter.unusedVariables false
theorem own : ownKnob Try.prog.godebug = none := by kernel_rfl
theorem laidOut : laidOutB Try.prog = true := by kernel_rfl
set_option maxHeartbeats 1000000 in
set_option maxRecDepth 100000 in
theorem lifted (os : Os) (started : os.Started) (H : Type) (enc : TypeId × Value → H) :
    ReturnsInHanded {} Try.checked os 7 .any (Rows.pieceBackSpec.pre6 enc Try.prog Try.f7 Rows.pieceBackRow.domain false) (Rows.pieceBackSpec.post enc Try.prog Try.f7 false true false false) := by
  refine returnsInHanded_of_change_sized (C := Try.checked) own started (by kernel_rfl) Try.func7
    (ChangeSpec.witness6 (enc := enc) (C := Try.checked) false ⟨#[], #[.slice none 0 0, .slice none 0 0, .slice none 0 0], []⟩ 8 (by kernel_rfl) (by kernel_rfl) (by kernel_rfl) (by kernel_rfl)) ?_
  intro W base args ds gs before hval0 hW hcnd hsz0 _
  have hsz : (DataW.weightsEach Try.prog (Try.f7.params.toList ++ Rows.pieceBackSpec.plain.varTypes Try.prog) (ds ++ gs)).all (· ≤ reachBytes) = true := hsz0
  have hval : ∀ (j : Nat) t v, Try.f7.params[j]? = some t → args[j]? = some v → Value.okWide Try.prog W .any base t v := hval0
  have hW' := hW
  obtain ⟨p, q, hA0, hV, rfl, hfz, hnd⟩ := hW
  have hA : DataW.TrodAll enc Try.prog W 0 (fun _ => true) true Try.f7.params.toList args.toList ds p := hA0
  rw [Try.params7] at hA hval hsz
  obtain ⟨v0, vs0, d0, ds0, p0, q0, hargs, rfl, rfl, h0, r0⟩ := trodAll_cons hA
  obtain ⟨v1, vs1, d1, ds1, p1, q1, rfl, rfl, rfl, h1, r1⟩ := trodAll_cons r0
  obtain ⟨v2, vs2, d2, ds2, p2, q2, rfl, rfl, rfl, h2, r2⟩ := trodAll_cons r1
  obtain ⟨rfl, rfl, rfl⟩ := trodAll_nil r2
  obtain rfl : args = #[v0, v1, v2] := by cases args; simp_all
  obtain ⟨rfl, rfl⟩ := trodVars_none hV
  obtain ⟨b0, len0, cap0, rfl⟩ := okWide_slice Try.underlying35 (hval 0 35 v0 rfl rfl)
  have k0 := h0
  have lt0 : ∀ x ∈ p0, x.block < W.heap.size := by obtain ⟨m, hm⟩ := k0; exact DataW.trod_lt m _ _ _ hm
  have y0 : len0 * 8 ≤ 140737488351232 := sized_any hsz (j := 0) (t := 35) rfl rfl Try.underlying35 (by kernel_rfl) h0
  obtain ⟨z0, hK0, hw0, hw0b⟩ : ∃ z, (Kd.slice 45 (Kd.int .u64)).K W z [Value.slice b0 len0 cap0] ∧ z.length ≤ maxLen ∧ ∀ x_ ∈ z, (Lit.int .u64 x_).wf = true := by
    obtain ⟨fuel, hf⟩ := h0
    exact (opens_slice Try.underlying35 (opens_int (k := .u64) Try.underlying45) (by kernel_rfl)) enc W 0 _ true fuel _ _ hf
  obtain ⟨A0, c0, he0, hc0, hC0⟩ := hK0
  injection he0 with he0
  injection he0 with e0a e0b e0c
  subst e0a e0b e0c
  obtain ⟨b1, len1, cap1, rfl⟩ := okWide_slice Try.underlying42 (hval 1 42 v1 rfl rfl)
  have k1 := h1
  have lt1 : ∀ x ∈ p1, x.block < W.heap.size := by obtain ⟨m, hm⟩ := k1; exact DataW.trod_lt m _ _ _ hm
  have y1 : len1 * 1 ≤ 140737488351232 := sized_any hsz (j := 1) (t := 42) rfl rfl Try.underlying42 (by kernel_rfl) h1
  obtain ⟨z1, hK1, hw1, hw1b⟩ : ∃ z, (Kd.slice 5 (Kd.int .u8)).K W z [Value.slice b1 len1 cap1] ∧ z.length ≤ maxLen ∧ ∀ x_ ∈ z, (Lit.int .u8 x_).wf = true := by
    obtain ⟨fuel, hf⟩ := h1
    exact (opens_slice Try.underlying42 (opens_int (k := .u8) Try.underlying5) (by kernel_rfl)) enc W 0 _ true fuel _ _ hf
  obtain ⟨A1, c1, he1, hc1, hC1⟩ := hK1
  injection he1 with he1
  injection he1 with e1a e1b e1c
  subst e1a e1b e1c
  obtain ⟨b2, len2, cap2, rfl⟩ := okWide_slice Try.underlying35 (hval 2 35 v2 rfl rfl)
  have k2 := h2
  have lt2 : ∀ x ∈ p2, x.block < W.heap.size := by obtain ⟨m, hm⟩ := k2; exact DataW.trod_lt m _ _ _ hm
  have y2 : len2 * 8 ≤ 140737488351232 := sized_any hsz (j := 2) (t := 35) rfl rfl Try.underlying35 (by kernel_rfl) h2
  obtain ⟨z2, hK2, hw2, hw2b⟩ : ∃ z, (Kd.slice 45 (Kd.int .u64)).K W z [Value.slice b2 len2 cap2] ∧ z.length ≤ maxLen ∧ ∀ x_ ∈ z, (Lit.int .u64 x_).wf = true := by
    obtain ⟨fuel, hf⟩ := h2
    exact (opens_slice Try.underlying35 (opens_int (k := .u64) Try.underlying45) (by kernel_rfl)) enc W 0 _ true fuel _ _ hf
  obtain ⟨A2, c2, he2, hc2, hC2⟩ := hK2
  injection he2 with he2
  injection he2 with e2a e2b e2c
  subst e2a e2b e2c
  clear hA0 hval0 hsz0 hsz
  obtain ⟨k, h⟩ := Go.Proofs.Ytccnoemcpmdeaaa.Pure.PieceBack z0 z1 z2 hw0 y0 hw0b hw1 y1 hw1b hw2 y2 hw2b
  refine (lockfastlaw14_PieceBack.calls k _ _ z0 _ _ z1 _ _ z2 true W hC0 hc0 hC1 hc1 hC2 hc2 h).mono fun e W' ⟨he, hd⟩ => ?_
  have bel : Below W.heap.size W W' := hd
  subst he
  exact ⟨_, rfl, _, _, _, [], _, [], hW', trodAll_mk1 (shut_bool Try.underlying4 _), (trodAll_cons_mk (Below.trod laidOut (by kernel_rfl) (of_decide_eq_true (by kernel_rfl)) k0 bel lt0) (trodAll_cons_mk (Below.trod laidOut (by kernel_rfl) (of_decide_eq_true (by kernel_rfl)) k1 bel lt1) (trodAll_cons_mk (Below.trod laidOut (by kernel_rfl) (of_decide_eq_true (by kernel_rfl)) k2 bel lt2) trodAll_mk0))), rfl, bel.frame _, fun h => by cases h⟩
theorem over : Rows.pieceBackRow.holds Try.pinned (OpenSpec.ofChange Rows.pieceBackSpec) :=
  OpenClaim.holds_of_wide 7 Try.f7 rfl rfl rfl rfl rfl rfl rfl ⟨rfl, rfl, rfl, rfl, rfl⟩ rfl rfl rfl rfl rfl (by kernel_rfl) Try.func7 (by kernel_rfl)
    (of_decide_eq_true (by kernel_rfl)) (by unfold Func.isWrapper; first | (rw [if_pos (by decide +kernel)]; kernel_rfl) | (rw [if_neg (by decide +kernel)]; exact ⟨rfl, rfl⟩))
    (fun os started H enc _ => lifted os started H enc)
end Go.Proofs.Ytccnoemcpmdeaaa.pieceBack
namespace Go.Proofs.Ytccnoemcpmdeaaa
theorem pieceBack_holds : Rows.PieceBackSaid := pieceBack.over
end Go.Proofs.Ytccnoemcpmdeaaa
