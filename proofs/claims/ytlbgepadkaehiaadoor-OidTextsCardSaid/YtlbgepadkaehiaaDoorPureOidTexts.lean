import Derived.Test.YtlbgepadkaehiaaDoorStOidTexts
import Derived.Test.YtlbgepadkaehiaaDoorOidNumR
set_option linter.unusedVariables false
set_option linter.unusedSimpArgs false
namespace Go.Proofs.YtlbgepadkaehiaaDoor.Pure
open Go.RowKit Go.Proofs.YtlbgepadkaehiaaDoor.Q Go.Proofs.YtlbgepadkaehiaaDoorW.PrintWords Go.Proofs.YtlbgepadkaehiaaDoorW.PrintLast
theorem rdM (ps : List (List UInt8)) (i : Nat) (h : i < ps.length) : rdOf ByteArray.empty (ps.map baOf) (i : Int) = baOf ps[i] := by
  unfold rdOf
  simp [h]
theorem tellFin (a b c : List UInt8) (ha : a.length ≤ 1000) (hb : b.length ≤ 1000) (hc : c.length ≤ 1000) (ps : List ByteArray) (hps : ps = [a, b, c].map baOf) :
    Ev (fun k => ((lockfastref08_number.f k (rdOf ByteArray.empty ps 0)).bind fun bt191 => (if 1 < (ps.length : Int) then ((lockfastref08_number.f k (rdOf ByteArray.empty ps 1)).bind fun bt194 => (if 2 < (ps.length : Int) then ((lockfastref08_number.f k (rdOf ByteArray.empty ps 2)).bind fun bt197 => (if bt191.2 = true then (if bt194.2 = true then (if bt197.2 = true then (if bt191.1 > 2147483647 then (some (0, 0, 0, false)) else (if bt194.1 > 2147483647 then (some (0, 0, 0, false)) else (some (wrap64 (bt191.1), wrap64 (bt194.1), bt197.1, true)))) else (some (0, 0, 0, false))) else (some (0, 0, 0, false))) else (some (0, 0, 0, false)))) else (none))) else (none)))) (told [a, b, c]) := by
  subst hps
  have e0 : rdOf ByteArray.empty ([a, b, c].map baOf) 0 = baOf a := rfl
  have e1 : rdOf ByteArray.empty ([a, b, c].map baOf) 1 = baOf b := rfl
  have e2 : rdOf ByteArray.empty ([a, b, c].map baOf) 2 = baOf c := rfl
  rw [e0, e1, e2]
  have hlen : (([a, b, c].map baOf).length : Int) = 3 := rfl
  rw [hlen]
  refine Ev.bind (number_ev a ha) ?_
  refine Ev.congr (fun k => by rw [if_pos (by decide)]) ?_
  refine Ev.bind (number_ev b hb) ?_
  refine Ev.congr (fun k => by rw [if_pos (by decide)]) ?_
  refine Ev.bind (number_ev c hc) ?_
  unfold numEnd
  cases ha' : pN a with
  | none => exact Ev.congr (f := fun _ => some (0, 0, 0, false)) (fun k => by simp) (ev_eq (ev_some _) (by simp only [told, ha']))
  | some x =>
    cases hb' : pN b with
    | none => exact Ev.congr (f := fun _ => some (0, 0, 0, false)) (fun k => by simp) (ev_eq (ev_some _) (by simp only [told, ha', hb']))
    | some y =>
      cases hc' : pN c with
      | none => exact Ev.congr (f := fun _ => some (0, 0, 0, false)) (fun k => by simp) (ev_eq (ev_some _) (by simp only [told, ha', hb', hc']))
      | some z =>
        have ht : told [a, b, c] = if x < 2147483648 ∧ y < 2147483648 then ((x : Int), (y : Int), (z : Int), true) else (0, 0, 0, false) := by simp only [told, ha', hb', hc']
        rw [ht]
        simp only [if_true]
        by_cases hx : x < 2147483648
        · by_cases hy : y < 2147483648
          · refine Ev.congr (f := fun _ => some ((x : Int), (y : Int), (z : Int), true)) (fun k => ?_) (ev_eq (ev_some _) ?_)
            · rw [if_neg (by omega), if_neg (by omega), w64 (by omega), w64 (by omega)]
            · rw [if_pos ⟨hx, hy⟩]
          · refine Ev.congr (f := fun _ => some (0, 0, 0, false)) (fun k => ?_) (ev_eq (ev_some _) ?_)
            · rw [if_neg (by omega), if_pos (by omega)]
            · rw [if_neg (fun h => hy h.2)]
        · refine Ev.congr (f := fun _ => some (0, 0, 0, false)) (fun k => ?_) (ev_eq (ev_some _) ?_)
          · rw [if_pos (by omega)]
          · rw [if_neg (fun h => hx h.1)]
theorem split_len (r : List UInt8) : ∀ (cur : List UInt8), ∀ q ∈ splitD cur r, q.length ≤ cur.length + r.length := by
  induction r with
  | nil =>
    intro cur q hq
    simp only [splitD, List.mem_singleton] at hq
    subst hq
    simp
  | cons c r ih =>
    intro cur q hq
    simp only [splitD] at hq
    split at hq
    · rcases List.mem_cons.1 hq with rfl | hq
      · simp
      · have := ih [] q hq
        simp at this ⊢
        omega
    · have := ih _ q hq
      simp at this ⊢
      omega
theorem told_len (ps : List (List UInt8)) (h : ps.length ≠ 3) : told ps = (0, 0, 0, false) := by
  match ps, h with
  | [], _ => rfl
  | [a], _ => rfl
  | [a, b], _ => rfl
  | [a, b, c], h => exact absurd rfl h
  | a :: b :: c :: d :: r, _ => rfl
theorem sz2 (a : List UInt8) (c : UInt8) (h : a.length ≤ 60) : (baOf a).size + (baOf [c]).size ≤ 9223372036854775807 := by
  rw [baOf_size, baOf_size, List.length_singleton]
  exact Nat.le_trans (Nat.add_le_add_right h 1) (by decide)
theorem l0_else (k : Nat) (x : ByteArray) (ps : List ByteArray) (i n : Nat) (b : ByteArray) (h1 : (i : Int) < (x.size : Int)) (h46 : ¬ bt x (i : Int) = 46) (hn : (ps.length : Int) = ((n + 1 : Nat) : Int)) (hn60 : n < 100) (hi : i < 100)
    (hrd : rdOf ByteArray.empty ps ((n : Nat) : Int) = b) (hsz : b.size + (x.extract i (i + 1)).size ≤ 9223372036854775807) :
    lockfastref08_Parse.l0 (k + 1) x ps (i : Int) = lockfastref08_Parse.l0 k x (ps.set n (b ++ x.extract i (i + 1))) ((i + 1 : Nat) : Int) := by
  have hw : wrap64 ((ps.length : Int) - 1) = ((n : Nat) : Int) := by rw [hn, w64 (by omega)]; omega
  have hwi : wrap64 ((i : Int) + 1) = ((i + 1 : Nat) : Int) := w64 (by omega)
  have c0 : (0 : Int) ≤ (i : Int) := by omega
  have c1 : (0 : Int) ≤ ((n : Nat) : Int) := by omega
  have c2 : ((n : Nat) : Int) < (ps.length : Int) := by rw [hn]; omega
  have c3 : (i : Int) ≤ ((i + 1 : Nat) : Int) := by omega
  have c4 : ((i + 1 : Nat) : Int) ≤ (x.size : Int) := by omega
  simp only [lockfastref08_Parse.l0]
  rw [if_pos h1, if_pos c0, if_neg h46, hw, hwi, if_pos c1, if_pos c2, if_pos c3, if_pos c4, hrd, Int.toNat_natCast, Int.toNat_natCast, if_pos hsz, Int.toNat_natCast]
theorem parse_l0 (s : List UInt8) (hs : s.length ≤ 60) : ∀ (d i : Nat) (pre : List (List UInt8)) (cur : List UInt8), s.length - i = d → i ≤ s.length → pre.length ≤ i → cur.length ≤ i → (∀ q ∈ pre, q.length ≤ 60) →
    Ev (fun k => lockfastref08_Parse.l0 k (baOf s) ((pre ++ [cur]).map baOf) (i : Int)) (told (pre ++ splitD cur (s.drop i))) := by
  have hsz := baOf_size s
  intro d
  induction d with
  | zero =>
    intro i pre cur hd hi hp hc hq
    obtain rfl : i = s.length := by omega
    rw [List.drop_length]
    have hl : (((pre ++ [cur]).map baOf).length : Int) = ((pre.length + 1 : Nat) : Int) := by simp
    show Ev _ (told (pre ++ [cur]))
    by_cases h3 : pre.length = 2
    · obtain ⟨a, b, rfl⟩ : ∃ a b, pre = [a, b] := by
        match pre, h3 with
        | [a, b], _ => exact ⟨a, b, rfl⟩
      refine ev_next (fun k => ?_) (tellFin a b cur (by have := hq a (by simp); omega) (by have := hq b (by simp); omega) (by omega) _ rfl)
      simp only [lockfastref08_Parse.l0]
      rw [if_neg (by omega), if_pos (by rw [hl]; simp), if_pos (by rw [hl]; simp), show ([a, b] : List (List UInt8)) ++ [cur] = [a, b, cur] from rfl]
    · refine ev_next (f := fun _ => some (0, 0, 0, false)) (fun k => ?_) (ev_eq (ev_some _) (told_len _ (by simp; omega)).symm)
      simp only [lockfastref08_Parse.l0]
      rw [if_neg (by omega), if_neg (by rw [hl]; omega)]
  | succ d ih =>
    intro i pre cur hd hi hp hc hq
    have hil : i < s.length := by omega
    have hlt2 : (i : Int) < ((baOf s).size : Int) := by omega
    have hpl : pre.length < 100 := by omega
    have hi100 : i < 100 := by omega
    have hc60 : cur.length ≤ 60 := by omega
    have hb := bt_of s i hil
    have hl : (((pre ++ [cur]).map baOf).length : Int) = ((pre.length + 1 : Nat) : Int) := by simp
    rw [List.drop_eq_getElem_cons hil]
    simp only [splitD]
    by_cases h46 : s[i] = 46
    · rw [if_pos h46]
      have h46' : bt (baOf s) (i : Int) = 46 := by rw [hb, h46]; rfl
      have hI := ih (i + 1) (pre ++ [cur]) [] (by omega) (by omega) (by simp; omega) (by simp) (fun q hm => by
        rcases List.mem_append.1 hm with hm | hm
        · exact hq q hm
        · have : q = cur := by simpa using hm
          rw [this]; omega)
      refine ev_next (f := fun k => lockfastref08_Parse.l0 k (baOf s) ((pre ++ [cur] ++ [[]]).map baOf) ((i + 1 : Nat) : Int)) (fun k => ?_) (ev_eq hI (by simp))
      simp only [lockfastref08_Parse.l0]
      have hlt : ((pre ++ [cur]).map baOf).length < 8796093022208 := by simp; omega
      rw [if_pos (by omega), if_pos (by omega), if_pos h46', if_pos hlt, w64 (by omega), List.map_append (l₁ := pre ++ [cur]), show List.map baOf [[]] = [(⟨#[]⟩ : ByteArray)] from rfl, show ((i + 1 : Nat) : Int) = (i : Int) + 1 by omega]
    · rw [if_neg h46]
      have h46' : ¬ bt (baOf s) (i : Int) = 46 := by
        rw [hb]
        intro e
        exact h46 (UInt8.toNat_inj.1 (by have : s[i].toNat = 46 := by omega
                                         rw [this]; rfl))
      have hI := ih (i + 1) pre (cur ++ [s[i]]) (by omega) (by omega) (by omega) (by simp; omega) hq
      refine ev_next (f := fun k => lockfastref08_Parse.l0 k (baOf s) ((pre ++ [cur ++ [s[i]]]).map baOf) ((i + 1 : Nat) : Int)) (fun k => ?_) hI
      have hrd : rdOf ByteArray.empty ((pre ++ [cur]).map baOf) ((pre.length : Nat) : Int) = baOf cur := by
        rw [rdM _ _ (by simp)]
        simp
      have hex : (baOf s).extract i (i + 1) = baOf [s[i]] := by
        apply ByteArray.ext
        rw [← Array.toList_inj, ByteArray.data_extract, Array.toList_extract]
        show s.extract i (i + 1) = [s[i]]
        rw [List.extract_eq_take_drop, List.drop_eq_getElem_cons hil, show i + 1 - i = 1 by omega]
        rfl
      have happ : baOf cur ++ baOf [s[i]] = baOf (cur ++ [s[i]]) := by
        apply ByteArray.ext
        rw [← Array.toList_inj, ByteArray.data_append, Array.toList_append]
        rfl
      have hset : ((pre ++ [cur]).map baOf).set pre.length (baOf (cur ++ [s[i]])) = (pre ++ [cur ++ [s[i]]]).map baOf := by
        simp
      rw [l0_else k (baOf s) _ i pre.length (baOf cur) hlt2 h46' hl hpl hi100 hrd (by rw [hex]; exact sz2 cur s[i] hc60), hex, happ, hset]
theorem refParse_ev (s : ByteArray) (hs : s.size ≤ 60) : Ev (fun k => lockfastref08_Parse.f k s) (told (splitD [] s.data.toList)) := by
  have hl : s.data.toList.length = s.size := by rw [Array.length_toList]; rfl
  have h := parse_l0 s.data.toList (by omega) s.data.toList.length 0 [] [] (by omega) (by omega) (by simp) (by simp) (fun q hq => (by cases hq))
  have e : baOf s.data.toList = s := by
    apply ByteArray.ext
    simp [baOf]
  rw [e] at h
  exact h
theorem OidTexts : lockfastlaw08_OidTexts.Fact := by
  intro o s at_ h ⟨o1, o2, o3⟩ hs _ _
  have o1 := i64_range o1
  have o2 := i64_range o2
  have o3 := u64_range o3
  suffices H : Ev (fun k => lockfastlaw08_OidTexts.f k o.f0 o.f1 o.f2 s at_ h.f0 h.f1 h.f2) true from H.rounds
  unfold lockfastlaw08_OidTexts.f
  refine Ev.bind awake_ev ?_
  by_cases h60 : (s.size : Int) > 60
  · exact Ev.congr (f := fun _ => some true) (fun k => by rw [if_pos h60]) (ev_some _)
  · refine Ev.congr (fun k => by rw [if_neg h60]) ?_
    rw [parse_told s hs]
    simp only [Option.bind_some, if_true]
    refine Ev.bind (refParse_ev s (by omega)) (Ev.bind (text_ev _ _ _ o1.2 o2.2 o3) (Ev.bind (refText_ev _ _ _ o1.2 o2.2 o3) ?_))
    refine Ev.congr (f := fun _ => some true) (fun k => ?_) (ev_some _)
    rw [if_pos rfl]
    simp [oid_Name.f]
end Go.Proofs.YtlbgepadkaehiaaDoor.Pure
