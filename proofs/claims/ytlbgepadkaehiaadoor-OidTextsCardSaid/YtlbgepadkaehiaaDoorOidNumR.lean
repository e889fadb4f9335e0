/- The reference's number and Parse. -/
import Derived.Test.YtlbgepadkaehiaaDoorOidText
import Derived.Test.YtlbgepadkaehiaaDoorQx18
set_option linter.unusedVariables false
set_option linter.unusedSimpArgs false
namespace Go.Proofs.YtlbgepadkaehiaaDoor.Pure
open Go.RowKit Go.Proofs.YtlbgepadkaehiaaDoor.Q Go.Proofs.YtlbgepadkaehiaaDoorW.PrintWords Go.Proofs.YtlbgepadkaehiaaDoorW.PrintLast
def baOf (l : List UInt8) : ByteArray := ⟨l.toArray⟩
theorem baOf_size (l : List UInt8) : (baOf l).size = l.length := List.size_toArray
theorem bt_of (l : List UInt8) (i : Nat) (h : i < l.length) : bt (baOf l) (i : Int) = ((l[i].toNat : Nat) : Int) := by
  unfold bt
  rw [dif_pos (by rw [Int.toNat_natCast, baOf_size]; exact h)]
  rfl
def numEnd (l : List UInt8) : Int × Bool := match pN l with | some v => ((v : Int), true) | none => (0, false)
theorem numEnd_no (l : List UInt8) (h : ∀ v, ¬ Num l v) : numEnd l = (0, false) := by
  unfold numEnd
  cases e : pN l with
  | none => rfl
  | some v => exact absurd ((pN_iff l v).1 e) (h v)
theorem numEnd_yes (l : List UInt8) (v : Nat) (h : Num l v) : numEnd l = ((v : Int), true) := by
  unfold numEnd
  rw [(pN_iff l v).2 h]
theorem val_take (l : List UInt8) (i : Nat) (h : i < l.length) : valF 0 (l.take (i + 1)) = valF 0 (l.take i) * 10 + (l[i].toNat - 48) := by
  rw [List.take_add_one, List.getElem?_eq_getElem h, valF_app]
  rfl
theorem val_le (l : List UInt8) (i : Nat) : valF 0 (l.take i) ≤ valF 0 l := by
  have h := valF_ge' (l.drop i) (valF 0 (l.take i))
  rw [← valF_app, List.take_append_drop] at h
  exact h
theorem number_l0 (l : List UInt8) (hl : l.length ≤ 1000) : ∀ (d i : Nat), l.length - i = d → i ≤ l.length → (∀ c ∈ l.take i, isD c) → (valF 0 (l.take i) < 18446744073709551616) →
    Ev (fun k => lockfastref08_number.l0 k (baOf l) ((valF 0 (l.take i) : Nat) : Int) (i : Int)) (numEnd l) := by
  have hsz := baOf_size l
  intro d
  induction d with
  | zero =>
    intro i hd hi hD hv
    obtain rfl : i = l.length := by omega
    rw [List.take_length] at *
    by_cases h0 : l.length = 0
    · refine ev_next (f := fun _ => some (0, false)) (fun k => ?_) (ev_eq (ev_some _) ?_)
      · simp only [lockfastref08_number.l0]
        rw [if_neg (by omega), if_pos (by omega)]
      · refine (numEnd_no l fun v h => ?_).symm
        exact ((num_iff l v).1 h).1 (List.length_eq_zero_iff.1 h0)
    · have hb := bt_of l 0 (by omega)
      have hb' : bt (baOf l) 0 = ((l[0].toNat : Nat) : Int) := hb
      have hne : l ≠ [] := fun e => h0 (by rw [e]; rfl)
      have hhead : l.head? = some (l[0]'(by omega)) := by
        cases l with
        | nil => exact absurd rfl hne
        | cons a b => rfl
      by_cases h48 : (l[0]'(by omega)).toNat = 48
      · by_cases h1 : l.length > 1
        · refine ev_next (f := fun _ => some (0, false)) (fun k => ?_) (ev_eq (ev_some _) ?_)
          · simp only [lockfastref08_number.l0]
            rw [if_neg (by omega), if_neg (by omega), if_pos (by omega), hb', if_pos (by omega), if_pos (by omega)]
          · refine (numEnd_no l fun v h => ?_).symm
            rcases ((num_iff l v).1 h).2.2.1 with hc | hc
            · omega
            · exact hc (by rw [hhead]; congr 1; exact UInt8.toNat_inj.1 (by rw [h48]; rfl))
        · refine ev_next (f := fun _ => some (((valF 0 l : Nat) : Int), true)) (fun k => ?_) (ev_eq (ev_some _) ?_)
          · simp only [lockfastref08_number.l0]
            rw [if_neg (by omega), if_neg (by omega), if_pos (by omega), hb', if_pos (by omega), if_neg (by omega)]
          · exact (numEnd_yes l _ ((num_iff l _).2 ⟨hne, hD, .inl (by omega), rfl, hv⟩)).symm
      · refine ev_next (f := fun _ => some (((valF 0 l : Nat) : Int), true)) (fun k => ?_) (ev_eq (ev_some _) ?_)
        · simp only [lockfastref08_number.l0]
          rw [if_neg (by omega), if_neg (by omega), if_pos (by omega), hb', if_neg (by omega)]
        · refine (numEnd_yes l _ ((num_iff l _).2 ⟨hne, hD, .inr (fun e => ?_), rfl, hv⟩)).symm
          rw [hhead] at e
          injection e with e
          exact h48 (by rw [e]; rfl)
  | succ d ih =>
    intro i hd hi hD hv
    have hil : i < l.length := by omega
    have hb := bt_of l i hil
    have hno : ¬ isD l[i] → ∀ v, ¬ Num l v := fun hn v h => hn (((num_iff l v).1 h).2.1 _ (List.getElem_mem hil))
    have hc256 : l[i].toNat < 256 := UInt8.toNat_lt _
    by_cases hdig : isD l[i]
    · have hdig' := hdig
      unfold isD at hdig'
      by_cases h20 : l.length > 20
      · refine ev_next (f := fun k => lockfastref08_number.j1 k (baOf l) ((valF 0 (l.take i) : Nat) : Int) (i : Int) true) (fun k => ?_) (ev_next (f := fun _ => some (0, false)) (fun k => ?_) (ev_eq (ev_some _) ?_))
        · simp only [lockfastref08_number.l0]
          rw [if_pos (by omega), if_pos (by omega), hb, if_neg (by omega), if_neg (by omega), decide_eq_true (by omega)]
        · simp only [lockfastref08_number.j1]
          rfl
        · refine (numEnd_no l fun v h => ?_).symm
          have := decDigits_len 19 v (by have := h.2; omega)
          rw [← h.1] at this
          omega
      · have hstep : ∀ k, lockfastref08_number.l0 (k + 1) (baOf l) ((valF 0 (l.take i) : Nat) : Int) (i : Int) = lockfastref08_number.j1 k (baOf l) ((valF 0 (l.take i) : Nat) : Int) (i : Int) false := fun k => by
          simp only [lockfastref08_number.l0]
          rw [if_pos (by omega), if_pos (by omega), hb, if_neg (by omega), if_neg (by omega), decide_eq_false (by omega)]
        refine ev_next hstep ?_
        have hv1 := val_take l i hil
        have hv2 := val_le l (i + 1)
        obtain ⟨n, hn⟩ : ∃ n, valF 0 (l.take i) = n := ⟨_, rfl⟩
        obtain ⟨c, hc⟩ : ∃ c, l[i].toNat - 48 = c := ⟨_, rfl⟩
        rw [hn, hc] at hv1
        rw [hn] at hv
        have wb : IntKind.u64.wrap (bt (baOf l) (i : Int)) = ((l[i].toNat : Nat) : Int) := by rw [hb]; exact wu64 _ (by omega)
        have wc : IntKind.u64.wrap (((l[i].toNat : Nat) : Int) - 48) = (c : Int) := by rw [show ((l[i].toNat : Nat) : Int) - 48 = (c : Int) by omega]; exact wu64 _ (by omega)
        have hover : 18446744073709551616 ≤ n * 10 + c → numEnd l = (0, false) := fun h => numEnd_no l fun v hv' => by
          have := ((num_iff l v).1 hv').2.2.2
          omega
        rw [hn]
        by_cases b1 : n > 1844674407370955161
        · refine ev_next (f := fun _ => some (0, false)) (fun k => ?_) (ev_eq (ev_some _) (hover (by omega)).symm)
          simp only [lockfastref08_number.j1]
          rw [if_neg (by decide), if_pos (by omega), if_pos (by omega), if_pos (by omega)]
        · by_cases b2 : n = 1844674407370955161 ∧ c > 5
          · refine ev_next (f := fun _ => some (0, false)) (fun k => ?_) (ev_eq (ev_some _) (hover (by omega)).symm)
            simp only [lockfastref08_number.j1]
            rw [if_neg (by decide), if_pos (by omega), if_pos (by omega), if_neg (by omega), if_pos (by omega), wb, wc, if_pos (by omega)]
          · have wn : IntKind.u64.wrap (IntKind.u64.wrap (10 * (n : Int)) + (c : Int)) = ((n * 10 + c : Nat) : Int) := by
              rw [show 10 * (n : Int) = ((n * 10 : Nat) : Int) by omega, wu64 _ (by omega), show ((n * 10 : Nat) : Int) + (c : Int) = ((n * 10 + c : Nat) : Int) by omega]
              exact wu64 _ (by omega)
            have hI := ih (i + 1) (by omega) (by omega) (fun x hx => by
              rw [List.take_add_one, List.getElem?_eq_getElem hil] at hx
              rcases List.mem_append.1 hx with hx | hx
              · exact hD x hx
              · have : x = l[i] := by simpa using hx
                rw [this]; exact hdig) (by rw [hv1]; omega)
            rw [hv1] at hI
            refine ev_next (f := fun k => lockfastref08_number.l0 k (baOf l) ((n * 10 + c : Nat) : Int) ((i + 1 : Nat) : Int)) (fun k => ?_) hI
            simp only [lockfastref08_number.j1]
            rw [if_neg (by decide), if_pos (by omega), if_pos (by omega), if_neg (by omega), wb, wc, wn, w64 (by omega)]
            by_cases b3 : (n : Int) = 1844674407370955161
            · rw [if_pos b3, if_neg (by omega)]
              rfl
            · rw [if_neg b3]
              rfl
    · refine ev_next (f := fun k => lockfastref08_number.j1 k (baOf l) ((valF 0 (l.take i) : Nat) : Int) (i : Int) true) (fun k => ?_) (ev_next (f := fun _ => some (0, false)) (fun k => ?_) (ev_eq (ev_some _) (numEnd_no l (hno hdig)).symm))
      · simp only [lockfastref08_number.l0]
        rw [if_pos (by omega), if_pos (by omega), hb]
        by_cases h48 : l[i].toNat < 48
        · rw [if_pos (by omega)]
        · rw [if_neg (by omega), if_pos (by unfold isD at hdig; omega)]
      · simp only [lockfastref08_number.j1]
        rfl
theorem number_ev (l : List UInt8) (hl : l.length ≤ 1000) : Ev (fun k => lockfastref08_number.f k (baOf l)) (numEnd l) :=
  number_l0 l hl l.length 0 (by omega) (by omega) (fun c hc => (by cases hc)) (by rw [List.take_zero]; decide)
end Go.Proofs.YtlbgepadkaehiaaDoor.Pure
