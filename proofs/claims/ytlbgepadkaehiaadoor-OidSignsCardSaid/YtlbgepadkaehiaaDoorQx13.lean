-- Written by lfprint.py of this session's own, by way of the kit's print.py; with hand-made contracts.
import Derived.Outline
import Derived.Lib.Hide
import Derived.Lib.AtoiAllMem
import Derived.Test.YtlbgepadkaehiaaDoorQx0
import Derived.Test.YtlbgepadkaehiaaDoorQx4
import Derived.Test.YtlbgepadkaehiaaDoorQx5
namespace Go.Proofs.YtlbgepadkaehiaaDoor.Q
open Go.RowKit Go.Proofs.YtlbgepadkaehiaaDoorW.PrintWords Go.Proofs.YtlbgepadkaehiaaDoorW.PrintLast Go.Proofs.YtlbgepadkaehiaaDoorW.PrintMore
attribute [local go_sem] max2_int min2_int max_two min_two max_three min_three max_four min_four   -- for this text's walks alone
set_option linter.unusedVariables false
set_option linter.unusedSimpArgs false

/-! ### strconv_ParseUint_31: function 31 -/
/-- How a text ends that tells no number. -/
def noNum : Lib.NumEnd Nat := Lib.parseMag []
theorem noNum_ne (v : Nat) : noNum ≠ .ok v := fun h => by cases h
/-- The number that a text of digits tells, below 2^64. -/
def parseE (t : ByteArray) : Lib.NumEnd Nat := if t.size = 0 then noNum else Lib.parseUint10 0 t.data.toList
theorem Gl.synE {w : World} (h : Gl w) : IsErrVar w 1 := h.2.1
theorem Gl.ranE {w : World} (h : Gl w) : IsErrVar w 2 := h.2.2
theorem pu_int (t : ByteArray) (ht : t.size ≤ 281474976710656) (w : World) :
    Calls Tryd.prog 39 #[.string t, .int .i64 10, .int .i64 64] w fun e w' => e = .returned (Lib.uintTuple 79 (parseE t)) ∧ Below w.heap.size w w' := by
  unfold parseE
  by_cases h : t.size = 0
  · rw [if_pos h]
    have e : t = ⟨#[]⟩ := by
      apply ByteArray.ext
      exact Array.eq_empty_of_size_eq_zero h
    subst e
    refine (Any.internal_strconv_ParseUint_empty sc287 10 64 w).mono ?_
    rintro e w' ⟨rfl, rfl⟩
    exact ⟨rfl, Below.refl _ _⟩
  · rw [if_neg h]
    refine (Any.internal_strconv_ParseUint_10_b64 sc287 t h (by omega) w).mono ?_
    rintro e w' ⟨rfl, rfl⟩
    exact ⟨rfl, Lib.bytesWorld_below _ _ _⟩
set_option maxHeartbeats 2000000 in
theorem pu_ok (t : ByteArray) (ht : t.size ≤ 281474976710656) (v : Nat) (h : parseE t = .ok v) (w : World) :
    Calls Tryd.prog 31 #[.string t, .int .i64 10, .int .i64 64] w fun e w' => e = .returned (.tuple #[.int .u64 v, .nilIface]) ∧ Below w.heap.size w w' := by
  have hc := fun W => pu_int t ht W
  rw [h] at hc
  have HC := Lib.hid hc
  clear hc h
  go_enter Tryd.func31, Tryd.ntmps31
  go_wp2_with (go_at_call 39; refine (HC.out _).mono ?_; rintro e w' ⟨rfl, hb⟩; simp only [Lib.uintTuple])
  go_ret2
  exact ⟨rfl, hb⟩
set_option maxHeartbeats 2000000 in
theorem pu_syn (t : ByteArray) (ht : t.size ≤ 281474976710656) (h : parseE t = noNum) (w : World) (hG : Gl w) :
    Calls Tryd.prog 31 #[.string t, .int .i64 10, .int .i64 64] w fun e w' => (∃ x T p, e = .returned (.tuple #[.int .u64 x, .iface T p])) ∧ Below w.heap.size w w' := by
  have hc := fun W => pu_int t ht W
  rw [h] at hc
  have HC := Lib.hid hc
  have HG := Lib.hid hG
  clear hc h hG
  go_enter Tryd.func31, Tryd.ntmps31
  go_wp2_with (go_at_call 39; refine (HC.out _).mono ?_; rintro e w1 ⟨rfl, hb⟩; simp only [Lib.uintTuple])
  obtain ⟨te, pe, hv⟩ := (HG.out.below hb).synE
  have ht2 := Any.strconv_toError_syntax sc245 ⟨#[80, 97, 114, 115, 101, 85, 105, 110, 116]⟩ t 10 64 (.iface te pe) w1 ht hv (.inr ⟨te, pe, rfl⟩)
  have HT := Lib.hid ht2
  clear ht2 hv
  go_wp2_with (go_at_call 40; refine HT.out.mono ?_; rintro e w2 ⟨N, rfl, _, _, hb2⟩)
  go_ret2
  exact ⟨⟨_, _, _, rfl⟩, below_step hb hb2⟩
set_option maxHeartbeats 2000000 in
theorem pu_ran (t : ByteArray) (ht : t.size ≤ 281474976710656) (h : parseE t = .range) (w : World) (hG : Gl w) :
    Calls Tryd.prog 31 #[.string t, .int .i64 10, .int .i64 64] w fun e w' => (∃ x T p, e = .returned (.tuple #[.int .u64 x, .iface T p])) ∧ Below w.heap.size w w' := by
  have hc := fun W => pu_int t ht W
  rw [h] at hc
  have HC := Lib.hid hc
  have HG := Lib.hid hG
  clear hc h hG
  go_enter Tryd.func31, Tryd.ntmps31
  go_wp2_with (go_at_call 39; refine (HC.out _).mono ?_; rintro e w1 ⟨rfl, hb⟩; simp only [Lib.uintTuple])
  obtain ⟨te, pe, hv⟩ := (HG.out.below hb).ranE
  have ht2 := Any.strconv_toError_range sc245 ⟨#[80, 97, 114, 115, 101, 85, 105, 110, 116]⟩ t 10 64 (.iface te pe) w1 ht hv (.inr ⟨te, pe, rfl⟩)
  have HT := Lib.hid ht2
  clear ht2 hv
  go_wp2_with (go_at_call 40; refine HT.out.mono ?_; rintro e w2 ⟨N, rfl, _, _, hb2⟩)
  go_ret2
  exact ⟨⟨_, _, _, rfl⟩, below_step hb hb2⟩
/-- A text that tells no number gets an error that isn't nil. -/
theorem pu_err (t : ByteArray) (ht : t.size ≤ 281474976710656) (h : ∀ v, parseE t ≠ .ok v) (w : World) (hG : Gl w) :
    Calls Tryd.prog 31 #[.string t, .int .i64 10, .int .i64 64] w fun e w' => (∃ x T p, e = .returned (.tuple #[.int .u64 x, .iface T p])) ∧ Below w.heap.size w w' := by
  rcases hp : parseE t with v | _ | _
  · exact absurd hp (h v)
  · exact pu_syn t ht hp w hG
  · exact pu_ran t ht hp w hG
def strconv_ParseUint_31.f (a0 : ByteArray) : Option ByteArray := none
theorem strconv_ParseUint_31.calls : True := trivial

end Go.Proofs.YtlbgepadkaehiaaDoor.Q
