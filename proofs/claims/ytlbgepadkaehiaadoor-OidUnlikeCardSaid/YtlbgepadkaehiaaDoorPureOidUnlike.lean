import Derived.Test.YtlbgepadkaehiaaDoorStOidUnlike
import Derived.Test.YtlbgepadkaehiaaDoorOidText
set_option linter.unusedVariables false
set_option linter.unusedSimpArgs false
namespace Go.Proofs.YtlbgepadkaehiaaDoor.Pure
open Go.RowKit Go.Proofs.YtlbgepadkaehiaaDoor.Q Go.Proofs.YtlbgepadkaehiaaDoorW.PrintWords Go.Proofs.YtlbgepadkaehiaaDoorW.PrintLast
theorem enc_same (a b c a' b' c' : Int) (h : rightH a b c = true) (h' : rightH a' b' c' = true) :
    decide ((encR a b c).1 = (encR a' b' c').1) = (a == a' && (b == b' && (c == c'))) := by
  have hr := of_decide_eq_true h
  have hr' := of_decide_eq_true h'
  unfold encR
  rw [if_pos h, if_pos h']
  rw [Bool.eq_iff_iff]
  simp only [decide_eq_true_eq, Bool.and_eq_true, beq_iff_eq, List.cons.injEq, and_true]
  unfold firstN
  constructor
  · rintro ⟨h1, h2⟩
    omega
  · rintro ⟨rfl, rfl, rfl⟩
    exact ⟨rfl, rfl⟩
theorem text_same (a b c a' b' c' : Int) (h : 0 ≤ a ∧ 0 ≤ b ∧ 0 ≤ c) (h' : 0 ≤ a' ∧ 0 ≤ b' ∧ 0 ≤ c') :
    ((textOf a b c).toList == (textOf a' b' c').toList) = (a == a' && (b == b' && (c == c'))) := by
  unfold textOf
  rw [if_neg (by omega), if_neg (by omega), ByteArray.toList_eq, ByteArray.toList_eq, textB_list, textB_list, Bool.eq_iff_iff]
  simp only [Bool.and_eq_true, beq_iff_eq]
  constructor
  · intro e
    have e2 := congrArg (splitD []) e
    rw [split_text, split_text] at e2
    simp only [List.cons.injEq, and_true] at e2
    have i1 := congrArg (valF 0) e2.1
    have i2 := congrArg (valF 0) e2.2.1
    have i3 := congrArg (valF 0) e2.2.2
    rw [dec_val, dec_val] at i1 i2 i3
    omega
  · rintro ⟨rfl, rfl, rfl⟩
    rfl
theorem unlike_j0 (a b c a' b' c' : Int) (hc : 0 ≤ c) (hc' : 0 ≤ c') : Ev (fun k => lockfastlaw08_OidUnlike.j0 k true false a b c a' b' c') true := by
  refine ev_next (f := fun k => (if (encR a b c).2 = 0 then (if (encR a' b' c').2 = 0 then ((lockfastref01_Words.f k (encR a b c).1 (encR a' b' c').1).bind fun t180 => (some (t180 == (a == a' && (b == b' && (c == c')))))) else (some true)) else (some true))) (fun k => ?_) ?_
  · simp only [lockfastlaw08_OidUnlike.j0]
    rw [if_neg (by decide), encode_eq a b c hc, encode_eq a' b' c' hc']
    simp only [Option.bind_some, if_true]
  · by_cases h1 : (encR a b c).2 = 0
    · refine Ev.congr (fun k => by rw [if_pos h1]) ?_
      by_cases h2 : (encR a' b' c').2 = 0
      · refine Ev.congr (fun k => by rw [if_pos h2]) ?_
        refine Ev.bind (words_ev _ _ (by unfold encR; split <;> simp)) ?_
        have r1 : rightH a b c = true := by
          unfold encR at h1
          split at h1
          · assumption
          · cases h1
        have r2 : rightH a' b' c' = true := by
          unfold encR at h2
          split at h2
          · assumption
          · cases h2
        rw [enc_same a b c a' b' c' r1 r2]
        exact Ev.congr (f := fun _ => some true) (fun k => by simp) (ev_some _)
      · exact Ev.congr (f := fun _ => some true) (fun k => by rw [if_neg h2]) (ev_some _)
    · exact Ev.congr (f := fun _ => some true) (fun k => by rw [if_neg h1]) (ev_some _)
theorem OidUnlike : lockfastlaw08_OidUnlike.Fact := by
  intro o p h i ⟨o1, o2, o3⟩ ⟨p1, p2, p3⟩ ⟨_, _, h3⟩ ⟨_, _, i3⟩
  have o1 := i64_range o1
  have o2 := i64_range o2
  have o3 := u64_range o3
  have p1 := i64_range p1
  have p2 := i64_range p2
  have p3 := u64_range p3
  have h3 := u64_range h3
  have i3 := u64_range i3
  suffices H : Ev (fun k => lockfastlaw08_OidUnlike.f k o.f0 o.f1 o.f2 p.f0 p.f1 p.f2 h.f0 h.f1 h.f2 i.f0 i.f1 i.f2) true from H.rounds
  unfold lockfastlaw08_OidUnlike.f
  refine Ev.bind awake_ev ?_
  have hj := unlike_j0 h.f0 h.f1 h.f2 i.f0 i.f1 i.f2 h3.1 i3.1
  by_cases c1 : o.f0 ≥ 0
  · refine Ev.congr (fun k => by rw [if_pos c1]) ?_
    by_cases c2 : o.f1 ≥ 0
    · refine Ev.congr (fun k => by rw [if_pos c2]) ?_
      by_cases c3 : p.f0 ≥ 0
      · refine Ev.congr (fun k => by rw [if_pos c3]) ?_
        by_cases c4 : p.f1 ≥ 0
        · refine Ev.congr (fun k => by rw [if_pos c4]) ?_
          refine Ev.bind (text_ev _ _ _ o1.2 o2.2 o3) (Ev.bind (text_ev _ _ _ p1.2 p2.2 p3) ?_)
          have e := text_same o.f0 o.f1 o.f2 p.f0 p.f1 p.f2 ⟨c1, c2, o3.1⟩ ⟨c3, c4, p3.1⟩
          rw [e]
          exact Ev.congr (fun k => by rw [bne_self_eq_false]) hj
        · exact Ev.congr (fun k => by rw [if_neg c4]) hj
      · exact Ev.congr (fun k => by rw [if_neg c3]) hj
    · exact Ev.congr (fun k => by rw [if_neg c2]) hj
  · exact Ev.congr (fun k => by rw [if_neg c1]) hj
end Go.Proofs.YtlbgepadkaehiaaDoor.Pure
