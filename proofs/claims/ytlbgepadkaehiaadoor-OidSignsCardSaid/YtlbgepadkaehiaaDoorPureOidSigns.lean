import Derived.Test.YtlbgepadkaehiaaDoorStOidSigns
import Derived.Test.YtlbgepadkaehiaaDoorOidText
set_option linter.unusedVariables false
set_option linter.unusedSimpArgs false
namespace Go.Proofs.YtlbgepadkaehiaaDoor.Pure
open Go.RowKit Go.Proofs.YtlbgepadkaehiaaDoor.Q Go.Proofs.YtlbgepadkaehiaaDoorW.PrintWords Go.Proofs.YtlbgepadkaehiaaDoorW.PrintLast
theorem bits_xor (a b : Nat) (ha : a < 18446744073709551616) (hb : b < 18446744073709551616) : Go.bits .xor .u64 (a : Int) (b : Int) = ((a ^^^ b : Nat) : Int) := by
  unfold Go.bits
  simp only [BitVec.toNat_xor, ofInt64 a ha, ofInt64 b hb]
  exact wu64 _ (Nat.xor_lt_two_pow (n := 64) ha hb)
theorem turned (w j : Nat) (hj : 32 ≤ j) (h : w / 4294967296 = 4200005632) : ¬ (w ^^^ 2 ^ j) / 4294967296 = 4200005632 := by
  intro e
  have h1 := Nat.xor_div_two_pow (a := w) (b := 2 ^ j) (n := 32)
  rw [show 2 ^ 32 = 4294967296 from rfl, e, h] at h1
  have h2 : 2 ^ j / 4294967296 = 2 ^ (j - 32) := by
    rw [show 4294967296 = 2 ^ 32 from rfl, Nat.pow_div hj (by decide)]
  rw [h2] at h1
  have h3 : 4200005632 ^^^ 4200005632 = 4200005632 ^^^ (4200005632 ^^^ 2 ^ (j - 32)) := congrArg (fun x => 4200005632 ^^^ x) h1
  rw [← Nat.xor_assoc, Nat.xor_self, Nat.zero_xor] at h3
  have := Nat.two_pow_pos (j - 32)
  omega
theorem shl_bit (x : Int) (h : 0 ≤ x ∧ x ≤ 255) : ∃ j : Nat, 32 ≤ j ∧ j < 64 ∧ shl .u64 1 ((32 + (Int.tmod x 32)) % 256) = ((2 ^ j : Nat) : Int) := by
  obtain ⟨n, rfl⟩ : ∃ n : Nat, x = (n : Int) := ⟨x.toNat, by omega⟩
  refine ⟨32 + n % 32, by omega, by omega, ?_⟩
  have e1 : Int.tmod (n : Int) 32 = ((n % 32 : Nat) : Int) := rfl
  have e2 : (32 + (Int.tmod (n : Int) 32)) % 256 = ((32 + n % 32 : Nat) : Int) := by rw [e1]; omega
  rw [e2]
  have hlt : n % 32 < 32 := Nat.mod_lt _ (by decide)
  generalize n % 32 = m at hlt ⊢
  unfold shl
  rw [Int.toNat_natCast, Nat.min_eq_left (by show 32 + m ≤ 64; omega), Int.one_mul]
  have e3 : ((2 : Int) ^ (32 + m)) = ((2 ^ (32 + m) : Nat) : Int) := by norm_cast
  rw [e3]
  exact wu64 _ (Nat.pow_lt_pow_right (by decide) (by omega) : 2 ^ (32 + m) < 2 ^ 64)
theorem OidSigns : lockfastlaw08_OidSigns.Fact := by
  intro h b ⟨_, _, hc⟩ hb
  have hc := u64_range hc
  have hb : 0 ≤ b ∧ b ≤ 255 := by
    have h1 : IntKind.u8.min = 0 := by decide
    have h2 : IntKind.u8.max = 255 := by decide
    simp only [Lit.wf, Bool.and_eq_true, decide_eq_true_eq] at hb
    omega
  suffices H : Ev (fun k => lockfastlaw08_OidSigns.f k h.f0 h.f1 h.f2 b) true from H.rounds
  unfold lockfastlaw08_OidSigns.f
  refine Ev.bind awake_ev ?_
  rw [encode_eq _ _ _ hc.1]
  simp only [Option.bind_some, if_true]
  by_cases hr : rightH h.f0 h.f1 h.f2 = true
  · have hrr := of_decide_eq_true hr
    obtain ⟨w, hw⟩ : ∃ w, firstN h.f0.toNat h.f1.toNat = w := ⟨_, rfl⟩
    have hw64 : w < 18446744073709551616 := by unfold firstN at hw; omega
    have hwd : w / 4294967296 = 4200005632 := by unfold firstN at hw; omega
    have he : encR h.f0 h.f1 h.f2 = ([(w : Int), h.f2], 0) := by unfold encR; rw [if_pos hr, hw]
    rw [he]
    simp only [if_true]
    obtain ⟨j, j1, j2, hj⟩ := shl_bit b hb
    have hj64 : 2 ^ j < 18446744073709551616 := (Nat.pow_lt_pow_right (by decide) j2 : 2 ^ j < 2 ^ 64)
    have r0 : rd [(w : Int), h.f2] 0 = (w : Int) := rfl
    have r1 : rd [(w : Int), h.f2] 1 = h.f2 := rfl
    rw [r0, r1, hj, bits_xor w _ hw64 hj64]
    have hx64 : w ^^^ 2 ^ j < 18446744073709551616 := Nat.xor_lt_two_pow (n := 64) hw64 hj64
    have d1 := decode_eq [((w ^^^ 2 ^ j : Nat) : Int), h.f2] (w ^^^ 2 ^ j) h.f2 hx64 (Nat.le_refl _) rfl rfl hc.1
    have d2 := decode_eq [(w : Int), 0] w 0 hw64 (Nat.le_refl _) rfl rfl (by decide)
    have d3 := (decode_few ([(w : Int), h.f2].take 1) (by simp)).1
    have d4 := decode_eq [(w : Int), h.f2, ((w ^^^ 2 ^ j : Nat) : Int)] w h.f2 hw64 (by simp) rfl rfl hc.1
    rw [d1, d2, d3, d4]
    have n1 : (decR (w ^^^ 2 ^ j) h.f2).2.2.2 = false := by
      unfold decR
      rw [if_neg (fun hh => turned w j j1 hwd hh.2)]
    have n2 : (decR w 0).2.2.2 = false := by
      unfold decR
      rw [if_neg (fun hh => by have := of_decide_eq_true hh.1; omega)]
    have n4 : (decR w h.f2).2.2.2 = true := by
      unfold decR
      rw [if_pos ⟨by
        unfold firstN at hw
        refine decide_eq_true ?_
        have e1 : ((w % 65536 : Nat) : Int) = h.f0 := by omega
        have e2 : ((w / 65536 % 65536 : Nat) : Int) = h.f1 := by omega
        rw [e1, e2]
        exact hrr, hwd⟩]
    simp only [Option.bind_some, n1, n2, n4]
    exact Ev.congr (f := fun _ => some true) (fun k => by simp) (ev_some _)
  · have he : encR h.f0 h.f1 h.f2 = ([], 1) := by unfold encR; rw [if_neg hr]
    rw [he]
    exact Ev.congr (f := fun _ => some true) (fun k => by simp) (ev_some _)
end Go.Proofs.YtlbgepadkaehiaaDoor.Pure
