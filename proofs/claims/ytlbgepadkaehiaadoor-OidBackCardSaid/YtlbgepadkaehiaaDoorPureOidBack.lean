import Derived.Test.YtlbgepadkaehiaaDoorStOidBack
import Derived.Test.YtlbgepadkaehiaaDoorOidText
set_option linter.unusedVariables false
set_option linter.unusedSimpArgs false
namespace Go.Proofs.YtlbgepadkaehiaaDoor.Pure
open Go.RowKit Go.Proofs.YtlbgepadkaehiaaDoor.Q Go.Proofs.YtlbgepadkaehiaaDoorW.PrintWords Go.Proofs.YtlbgepadkaehiaaDoorW.PrintLast
theorem and_small (a : Int) : 0 ≤ Go.bits .and .i64 a 65535 ∧ Go.bits .and .i64 a 65535 ≤ 65535 := by
  unfold Go.bits
  simp only [BitVec.toNat_and]
  have e : (BitVec.ofInt IntKind.i64.bits 65535).toNat = 65535 := by decide
  rw [e]
  have h := Nat.and_le_right (n := (BitVec.ofInt IntKind.i64.bits a).toNat) (m := 65535)
  generalize (BitVec.ofInt IntKind.i64.bits a).toNat &&& 65535 = n at *
  have hw : IntKind.i64.wrap (n : Int) = n := by
    have := w64 (x := (n : Int)) (by omega)
    simpa [i64_w] using this
  rw [hw]
  omega
theorem u32_range {x : Int} (h : (Lit.int .u32 x).wf = true) : 0 ≤ x ∧ x ≤ 4294967295 := by
  have h1 : IntKind.u32.min = 0 := by decide
  have h2 : IntKind.u32.max = 4294967295 := by decide
  simp only [Lit.wf, Bool.and_eq_true, decide_eq_true_eq] at h
  omega
theorem back_text (x y z : Nat) (hx : x < 2147483648) (hy : y < 2147483648) (hz : z < 18446744073709551616) : oid_Parse.f (textB x y z) = some ((x : Int), (y : Int), (z : Int), true) := by
  have s1 := digB_size x (by omega)
  have s2 := digB_size y (by omega)
  have s3 := digB_size z hz
  have sd : dotB.size = 1 := rfl
  rw [parse_told _ (by unfold textB; rw [app1, app1, app1, app1]; omega), textB_list, told_text x y z hx hy hz]
theorem back_j0 (at_ : Int) (s : ByteArray) (a b c : Int) (h1 : 0 ≤ at_ ∧ at_ ≤ 4294967295) (hs : s.size ≤ 140737488351232) (hc : 0 ≤ c ∧ c ≤ 18446744073709551615) : Ev (fun k => lockfastlaw08_OidBack.j0 k at_ s true a b c) true := by
  obtain ⟨x, hx⟩ : ∃ x : Nat, wrap64 (Int.tmod at_ 2147483648) = (x : Int) ∧ x < 2147483648 := by
    obtain ⟨n, rfl⟩ : ∃ n : Nat, at_ = (n : Int) := ⟨at_.toNat, by omega⟩
    have m1 : Int.tmod (n : Int) 2147483648 = ((n % 2147483648 : Nat) : Int) := (Int.ofNat_tmod n 2147483648).symm
    rw [m1]
    exact ⟨n % 2147483648, w64 (by omega), by omega⟩
  obtain ⟨y, hy, hy2⟩ : ∃ y : Nat, Go.bits .and .i64 a 65535 = (y : Int) ∧ y ≤ 65535 := by
    have := and_small a
    exact ⟨(Go.bits .and .i64 a 65535).toNat, by omega, by omega⟩
  obtain ⟨z, rfl⟩ : ∃ z : Nat, c = (z : Int) := ⟨c.toNat, by omega⟩
  refine ev_next (f := fun k => (oid_Text.f k (x : Int) (y : Int) (z : Int)).bind fun t330 => ((oid_Parse.f t330).bind fun bt331 => ((oid_Parse.f s).bind fun bt336 => (if bt331.2.2.2 = true then (if (bt331.1 == (x : Int) && (bt331.2.1 == (y : Int) && (bt331.2.2.1 == (z : Int)))) = true then (if bt336.2.2.2 = true then ((oid_Text.f k bt336.1 bt336.2.1 bt336.2.2.1).bind fun t341 => (if t341.toList = s.toList then (some true) else (some false))) else (some (bt336.1 == 0 && (bt336.2.1 == 0 && (bt336.2.2.1 == 0))))) else (some false)) else (some false))))) (fun k => ?_) ?_
  · simp only [lockfastlaw08_OidBack.j0]
    rw [hx.1, hy]
    rfl
  · refine Ev.bind (text_ev (x : Int) (y : Int) (z : Int) (by omega) (by omega) hc) ?_
    have e1 : textOf (x : Int) (y : Int) (z : Int) = textB x y z := by
      unfold textOf
      rw [if_neg (by omega)]
      rfl
    rw [e1, back_text x y z hx.2 (by omega) (by omega), parse_told s hs]
    simp only [Option.bind_some, if_true, beq_self_eq_true, Bool.and_self]
    rcases told_cases s.data.toList with h | ⟨x', y', z', q1, q2, q3, h, he⟩
    · rw [h]
      exact Ev.congr (f := fun _ => some true) (fun k => by rfl) (ev_some _)
    · rw [h]
      simp only [if_true]
      refine Ev.bind (text_ev (x' : Int) (y' : Int) (z' : Int) (by omega) (by omega) (by omega)) ?_
      have e2 : (textOf (x' : Int) (y' : Int) (z' : Int)).toList = s.toList := by
        unfold textOf
        rw [if_neg (by omega), ByteArray.toList_eq, ByteArray.toList_eq, he]
        exact textB_list x' y' z'
      exact Ev.congr (f := fun _ => some true) (fun k => by rw [if_pos e2]) (ev_some _)
theorem OidBack : lockfastlaw08_OidBack.Fact := by
  intro h at_ s ⟨_, _, h3⟩ hat hs
  have h3 := u64_range h3
  have hat := u32_range hat
  suffices H : Ev (fun k => lockfastlaw08_OidBack.f k h.f0 h.f1 h.f2 at_ s) true from H.rounds
  unfold lockfastlaw08_OidBack.f
  refine Ev.bind awake_ev ?_
  by_cases h60 : (s.size : Int) > 60
  · exact Ev.congr (f := fun _ => some true) (fun k => by rw [if_pos h60]) (ev_some _)
  · refine Ev.congr (fun k => by rw [if_neg h60]) ?_
    have hj := back_j0 at_ s h.f0 h.f1 h.f2 hat hs h3
    rw [encode_eq _ _ _ h3.1]
    simp only [Option.bind_some]
    by_cases hr : rightH h.f0 h.f1 h.f2 = true
    · have e : encR h.f0 h.f1 h.f2 = ([(firstN h.f0.toNat h.f1.toNat : Int), h.f2], 0) := if_pos hr
      have hd := of_decide_eq_true hr
      have hdec : oid_Decode.f [(firstN h.f0.toNat h.f1.toNat : Int), h.f2] = some (h.f0, h.f1, h.f2, true) := by
        have hb : firstN h.f0.toNat h.f1.toNat < 18446744073709551616 := by unfold firstN; omega
        rw [decode_eq _ (firstN h.f0.toNat h.f1.toNat) h.f2 hb (by simp) rfl rfl h3.1]
        unfold decR
        have m1 : firstN h.f0.toNat h.f1.toNat % 65536 = h.f0.toNat := by unfold firstN; omega
        have m2 : firstN h.f0.toNat h.f1.toNat / 65536 % 65536 = h.f1.toNat := by unfold firstN; omega
        have m3 : firstN h.f0.toNat h.f1.toNat / 4294967296 = 4200005632 := by unfold firstN; omega
        rw [m1, m2, m3, Int.toNat_of_nonneg (by omega), Int.toNat_of_nonneg (by omega), if_pos ⟨hr, rfl⟩]
      rw [e]
      simp only [if_true]
      rw [hdec]
      simp only [Option.bind_some, if_true, beq_self_eq_true, Bool.not_true, Bool.or_self]
      exact Ev.congr (fun k => by rw [if_neg (by decide)]) hj
    · have e : encR h.f0 h.f1 h.f2 = ([], 1) := if_neg hr
      rw [e]
      exact Ev.congr (fun k => by rw [if_neg (by decide)]) hj
end Go.Proofs.YtlbgepadkaehiaaDoor.Pure
