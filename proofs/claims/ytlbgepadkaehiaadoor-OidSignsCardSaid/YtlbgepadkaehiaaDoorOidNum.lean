/- Numbers as texts: which texts tell a number, and which one tells a given number. -/
import Derived.Test.YtlbgepadkaehiaaDoorQx15
import Derived.Test.YtlbgepadkaehiaaDoorQx10
set_option linter.unusedVariables false
set_option linter.unusedSimpArgs false
namespace Go.Proofs.YtlbgepadkaehiaaDoor.Pure
open Go.RowKit Go.Proofs.YtlbgepadkaehiaaDoor.Q Go.Proofs.YtlbgepadkaehiaaDoorW.PrintWords Go.Proofs.YtlbgepadkaehiaaDoorW.PrintLast
def isD (c : UInt8) : Prop := 48 ≤ c.toNat ∧ c.toNat ≤ 57
instance (c : UInt8) : Decidable (isD c) := by unfold isD; infer_instance
/-- The value of digits behind others. -/
def valF (acc : Nat) : List UInt8 → Nat
  | [] => acc
  | c :: r => valF (acc * 10 + (c.toNat - 48)) r
theorem valF_app (l r : List UInt8) : ∀ (acc : Nat), valF acc (l ++ r) = valF (valF acc l) r := by
  induction l with
  | nil => intro acc; rfl
  | cons c l ih => intro acc; exact ih _
theorem valF_ge (l : List UInt8) : ∀ (acc : Nat), acc * 10 ^ l.length ≤ valF acc l := by
  induction l with
  | nil => intro acc; exact Nat.le_of_eq (Nat.mul_one acc)
  | cons c l ih =>
    intro acc
    show acc * 10 ^ (l.length + 1) ≤ valF (acc * 10 + (c.toNat - 48)) l
    have h := ih (acc * 10 + (c.toNat - 48))
    refine Nat.le_trans ?_ h
    rw [Nat.pow_succ, Nat.mul_comm (10 ^ l.length) 10, ← Nat.mul_assoc]
    exact Nat.mul_le_mul_right _ (by omega)
theorem valF_ge' (l : List UInt8) (acc : Nat) : acc ≤ valF acc l :=
  Nat.le_trans (Nat.le_mul_of_pos_right _ (Nat.pow_pos (by decide))) (valF_ge l acc)
/-- What parses: digits, below 2^64. -/
theorem parse_iff (l : List UInt8) (v : Nat) : ∀ (acc : Nat), acc < 18446744073709551616 →
    (Lib.parseUint10 acc l = .ok v ↔ (∀ c ∈ l, isD c) ∧ v = valF acc l ∧ v < 18446744073709551616) := by
  induction l with
  | nil =>
    intro acc ha
    rw [Lib.parseUint10]
    constructor
    · intro h
      injection h with h
      subst h
      exact ⟨fun c hc => (by cases hc), rfl, ha⟩
    · rintro ⟨_, h, _⟩
      rw [h]
      rfl
  | cons c l ih =>
    intro acc ha
    rw [Lib.parseUint10]
    have hv : valF acc (c :: l) = valF (acc * 10 + (c.toNat - 48)) l := rfl
    rw [hv]
    have hge := valF_ge' l (acc * 10 + (c.toNat - 48))
    by_cases hd : 48 ≤ c.toNat ∧ c.toNat ≤ 57
    · rw [if_pos hd]
      by_cases h1 : 1844674407370955162 ≤ acc
      · rw [if_pos h1]
        refine ⟨fun h => (by cases h), ?_⟩
        rintro ⟨_, h2, h3⟩
        omega
      · rw [if_neg h1]
        by_cases h2 : 18446744073709551616 ≤ acc * 10 + (c.toNat - 48)
        · rw [if_pos h2]
          refine ⟨fun h => (by cases h), ?_⟩
          rintro ⟨_, h3, h4⟩
          omega
        · rw [if_neg h2, ih _ (by omega)]
          constructor
          · rintro ⟨h3, h4, h5⟩
            refine ⟨fun x hx => ?_, h4, h5⟩
            rcases List.mem_cons.1 hx with e | hx
            · rw [e]; exact hd
            · exact h3 x hx
          · rintro ⟨h3, h4, h5⟩
            exact ⟨fun x hx => h3 x (List.mem_cons_of_mem _ hx), h4, h5⟩
    · rw [if_neg hd]
      refine ⟨fun h => (by cases h), ?_⟩
      rintro ⟨h3, _, _⟩
      exact absurd (h3 c List.mem_cons_self) hd
theorem headApp {l r : List UInt8} (h : l ≠ []) : (l ++ r).head? = l.head? := by
  cases l with
  | nil => exact absurd rfl h
  | cons a b => rfl
theorem dch_nat (d : Nat) (h : d < 10) : (dch d).toNat = 48 + d := by
  unfold dch
  rw [UInt8.toNat_ofNat']
  omega
theorem dec_val (n : Nat) : valF 0 (Lib.decDigits n) = n := by
  induction n using Nat.strongRecOn with
  | _ n ih =>
    by_cases h : n < 10
    · rw [decDigits_small n h]
      show 0 * 10 + ((dch n).toNat - 48) = n
      rw [dch_nat n h]
      omega
    · rw [decDigits_big n (by omega), valF_app, ih (n / 10) (by omega)]
      show n / 10 * 10 + ((dch (n % 10)).toNat - 48) = n
      rw [dch_nat (n % 10) (by omega)]
      omega
theorem dec_isD (n : Nat) : ∀ c ∈ Lib.decDigits n, isD c := by
  induction n using Nat.strongRecOn with
  | _ n ih =>
    intro c hc
    by_cases h : n < 10
    · rw [decDigits_small n h] at hc
      obtain rfl := List.mem_singleton.1 hc
      have := dch_nat n h
      unfold isD
      omega
    · rw [decDigits_big n (by omega)] at hc
      rcases List.mem_append.1 hc with hc | hc
      · exact ih (n / 10) (by omega) c hc
      · obtain rfl := List.mem_singleton.1 hc
        have := dch_nat (n % 10) (by omega)
        unfold isD
        omega
theorem dec_ne (n : Nat) : Lib.decDigits n ≠ [] := by
  by_cases h : n < 10
  · rw [decDigits_small n h]; simp
  · rw [decDigits_big n (by omega)]; simp
/-- No needless naught ahead. -/
def canon (l : List UInt8) : Prop := l.length = 1 ∨ l.head? ≠ some 48
theorem dec_canon (n : Nat) : canon (Lib.decDigits n) := by
  induction n using Nat.strongRecOn with
  | _ n ih =>
    by_cases h : n < 10
    · rw [decDigits_small n h]; exact .inl rfl
    · rw [decDigits_big n (by omega)]
      right
      have hne := dec_ne (n / 10)
      rw [headApp hne]
      rcases ih (n / 10) (by omega) with h1 | h1
      · by_cases h2 : n / 10 < 10
        · rw [decDigits_small _ h2]
          intro e
          have e' : dch (n / 10) = 48 := by simpa using e
          have := dch_nat (n / 10) h2
          rw [e'] at this
          have h48 : (48 : UInt8).toNat = 48 := by decide
          omega
        · rw [decDigits_big _ (by omega)] at h1
          have := dec_ne (n / 10 / 10)
          cases hx : Lib.decDigits (n / 10 / 10) with
          | nil => exact absurd hx this
          | cons a b => rw [hx] at h1; simp at h1
      · exact h1
theorem val_pos (l : List UInt8) (hd : ∀ c ∈ l, isD c) (hne : l ≠ []) (hh : l.head? ≠ some 48) : 1 ≤ valF 0 l := by
  cases l with
  | nil => exact absurd rfl hne
  | cons c r =>
    have hc := hd c List.mem_cons_self
    have hc48 : c.toNat ≠ 48 := fun e => hh (by rw [List.head?_cons]; congr 1; exact UInt8.toNat_inj.1 (by rw [e]; rfl))
    show 1 ≤ valF (0 * 10 + (c.toNat - 48)) r
    have := valF_ge' r (0 * 10 + (c.toNat - 48))
    unfold isD at hc
    omega
/-- Digits without a needless naught are what their number is told as. -/
theorem dec_of_val (m : Nat) : ∀ (l : List UInt8), l.length = m → (∀ c ∈ l, isD c) → l ≠ [] → canon l → Lib.decDigits (valF 0 l) = l := by
  induction m with
  | zero => intro l hm _ hne; exact absurd (List.length_eq_zero_iff.1 hm) hne
  | succ m ih =>
    intro l hm hd hne hcan
    obtain ⟨l', c, rfl⟩ : ∃ l' c, l = l' ++ [c] := ⟨l.dropLast, l.getLast hne, (List.dropLast_concat_getLast hne).symm⟩
    have hc : isD c := hd c (List.mem_append_right _ (List.mem_singleton.2 rfl))
    obtain ⟨d, hd10, rfl⟩ : ∃ d, d < 10 ∧ c = dch d := ⟨c.toNat - 48, by unfold isD at hc; omega, UInt8.toNat_inj.1 (by rw [dch_nat _ (by unfold isD at hc; omega)]; unfold isD at hc; omega)⟩
    have hv : valF 0 (l' ++ [dch d]) = valF 0 l' * 10 + d := by
      rw [valF_app]
      show valF 0 l' * 10 + ((dch d).toNat - 48) = _
      rw [dch_nat d hd10]
      omega
    rw [hv]
    by_cases h0 : l' = []
    · subst h0
      rw [show valF 0 [] * 10 + d = d by show 0 * 10 + d = d; omega, decDigits_small d hd10]
      rfl
    · have hh : l'.head? ≠ some 48 := by
        rcases hcan with h1 | h1
        · rw [List.length_append] at h1
          have : l'.length = 0 := by
            have e : [dch d].length = 1 := rfl
            omega
          exact absurd (List.length_eq_zero_iff.1 this) h0
        · rwa [headApp h0] at h1
      have hd' : ∀ c ∈ l', isD c := fun x hx => hd x (List.mem_append_left _ hx)
      have hp := val_pos l' hd' h0 hh
      have hi := ih l' (by rw [List.length_append] at hm; have e : [dch d].length = 1 := rfl; omega) hd' h0 (.inr hh)
      rw [decDigits_big _ (by omega), show (valF 0 l' * 10 + d) / 10 = valF 0 l' by omega, show (valF 0 l' * 10 + d) % 10 = d by omega, hi]
/-- A text that tells a number as numbers are told. -/
def Num (l : List UInt8) (v : Nat) : Prop := l = Lib.decDigits v ∧ v < 18446744073709551616
theorem num_iff (l : List UInt8) (v : Nat) : Num l v ↔ l ≠ [] ∧ (∀ c ∈ l, isD c) ∧ canon l ∧ v = valF 0 l ∧ v < 18446744073709551616 := by
  constructor
  · rintro ⟨rfl, hv⟩
    exact ⟨dec_ne v, dec_isD v, dec_canon v, (dec_val v).symm, hv⟩
  · rintro ⟨h1, h2, h3, rfl, h5⟩
    exact ⟨(dec_of_val _ l rfl h2 h1 h3).symm, h5⟩
theorem num_one {l : List UInt8} {v v' : Nat} (h : Num l v) (h' : Num l v') : v = v' := by rw [← dec_val v, ← h.1, h'.1, dec_val]
theorem digB_list (v : Nat) : (digB v).data.toList = Lib.decDigits v := rfl
theorem digB_inj {a b : Nat} (h : digB a = digB b) : a = b := by
  have : Lib.decDigits a = Lib.decDigits b := by rw [← digB_list, ← digB_list, h]
  rw [← dec_val a, this, dec_val]
theorem partN_iff (t : ByteArray) (v : Nat) : partN t = some v ↔ Num t.data.toList v := by
  have hsz : t.size = t.data.toList.length := by rw [Array.length_toList]; rfl
  unfold partN parseE
  constructor
  · intro h
    by_cases h0 : t.size = 0
    · rw [if_pos h0] at h
      exact absurd (show (none : Option Nat) = some v from h) (by simp)
    · rw [if_neg h0] at h
      split at h
      · rename_i u hu
        split at h
        · rename_i he
          injection h with h
          subst h
          obtain ⟨h1, h2, h3⟩ := (parse_iff _ _ 0 (by omega)).1 hu
          exact ⟨by rw [← he]; rfl, h3⟩
        · cases h
      · cases h
  · rintro ⟨h1, h2⟩
    have h0 : ¬ t.size = 0 := by
      rw [hsz, h1]
      exact fun e => dec_ne v (List.length_eq_zero_iff.1 e)
    rw [if_neg h0]
    have hp : Lib.parseUint10 0 t.data.toList = .ok v := (parse_iff _ _ 0 (by omega)).2 ⟨by rw [h1]; exact dec_isD v, by rw [h1, dec_val], h2⟩
    rw [hp]
    refine if_pos ?_
    apply ByteArray.ext
    rw [← Array.toList_inj, digB_list, h1]
end Go.Proofs.YtlbgepadkaehiaaDoor.Pure
