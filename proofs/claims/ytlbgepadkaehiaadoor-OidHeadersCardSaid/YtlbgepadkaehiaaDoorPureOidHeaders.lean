import Derived.Test.YtlbgepadkaehiaaDoorStOidHeaders
import Derived.Test.YtlbgepadkaehiaaDoorOidText
set_option linter.unusedVariables false
set_option linter.unusedSimpArgs false
namespace Go.Proofs.YtlbgepadkaehiaaDoor.Pure
open Go.RowKit Go.Proofs.YtlbgepadkaehiaaDoor.Q Go.Proofs.YtlbgepadkaehiaaDoorW.PrintWords Go.Proofs.YtlbgepadkaehiaaDoorW.PrintLast
theorem OidHeaders : lockfastlaw08_OidHeaders.Fact := by
  intro h l ⟨ha, hb, hc⟩ _ hl8 hw
  have hc := u64_range hc
  suffices H : Ev (fun k => lockfastlaw08_OidHeaders.f k h.f0 h.f1 h.f2 l) true from H.rounds
  unfold lockfastlaw08_OidHeaders.f
  refine Ev.bind awake_ev ?_
  by_cases h10 : (l.length : Int) > 10
  · exact Ev.congr (f := fun _ => some true) (fun k => by rw [if_pos h10]) (ev_some _)
  · refine Ev.congr (fun k => by rw [if_neg h10]) ?_
    rw [encode_eq _ _ _ hc.1, refEncode_eq]
    obtain ⟨d, hd1, hd2⟩ : ∃ d, oid_Decode.f l = some d ∧ lockfastref08_Decode.f l = some d := by
      by_cases h2 : l.length < 2
      · exact ⟨_, decode_few l h2⟩
      · have w0 := u64_range (hw l[0] (List.getElem_mem (by omega)))
        have w1 := u64_range (hw l[1] (List.getElem_mem (by omega)))
        have r0 : rd l 0 = ((l[0].toNat : Nat) : Int) := by rw [show (0 : Int) = ((0 : Nat) : Int) from rfl, rdI l 0 (by omega), Int.toNat_of_nonneg w0.1]
        have r1 : rd l 1 = l[1] := rdI l 1 (by omega)
        exact ⟨_, decode_eq l l[0].toNat l[1] (by omega) (by omega) r0 r1 w1.1, refDecode_eq l l[0].toNat l[1] (by omega) (by omega) r0 r1⟩
    rw [hd1, hd2]
    simp only [Option.bind_some, if_true]
    refine Ev.bind (words_same _ _ (by unfold encR; split <;> simp) rfl) ?_
    rw [right_eq _ _ _ hc.1, refRight_eq]
    exact Ev.congr (f := fun _ => some true) (fun k => by simp) (ev_some _)
end Go.Proofs.YtlbgepadkaehiaaDoor.Pure
