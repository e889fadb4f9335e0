/- The parts of a text, and what Parse answers. -/
import Derived.Test.YtlbgepadkaehiaaDoorOidNum
import Derived.Test.YtlbgepadkaehiaaDoorQx15
import Derived.Test.YtlbgepadkaehiaaDoorQx10
set_option linter.unusedVariables false
set_option linter.unusedSimpArgs false
namespace Go.Proofs.YtlbgepadkaehiaaDoor.Pure
open Go.RowKit Go.Proofs.YtlbgepadkaehiaaDoor.Q Go.Proofs.YtlbgepadkaehiaaDoorW.PrintWords Go.Proofs.YtlbgepadkaehiaaDoorW.PrintLast
def splitD : List UInt8 → List UInt8 → List (List UInt8)
  | cur, [] => [cur]
  | cur, c :: r => if c = 46 then cur :: splitD [] r else splitD (cur ++ [c]) r
def pN (l : List UInt8) : Option Nat := partN ⟨l.toArray⟩
theorem pN_iff (l : List UInt8) (v : Nat) : pN l = some v ↔ Num l v := partN_iff ⟨l.toArray⟩ v
def fin3 : List Nat → List (List UInt8) → Option (List Nat)
  | acc, [] => if acc.length = 3 then some acc else none
  | acc, q :: qs => if acc.length = 3 then none else (pN q).bind fun v => fin3 (acc ++ [v]) qs
theorem getAt (s : ByteArray) (i : Nat) (h : i < s.size) : s.get! i = s.data.toList[i]'(by simpa using h) := by
  show s.data[i]! = _
  rw [getElem!_pos s.data i h]
  rfl
theorem go_parts (s : ByteArray) : ∀ (n f p fr : Nat) (acc : List Nat), s.size - p = n → p ≤ s.size → fr ≤ p → s.size + 1 < p + f →
    numGo (dotted s) f p fr acc = fin3 acc (splitD ((s.data.toList.drop fr).take (p - fr)) (s.data.toList.drop p)) := by
  have hsz : (dotted s).size = s.size + 1 := by unfold dotted; rw [ByteArray.size_append]; rfl
  have hls : s.data.toList.length = s.size := by rw [Array.length_toList]; rfl
  have hdl : (dotted s).data.toList = s.data.toList ++ [46] := by unfold dotted; rw [ByteArray.data_append, Array.toList_append]
  have hcur : ∀ a b, a ≤ b → b ≤ s.size → partN ((dotted s).extract a b) = pN ((s.data.toList.drop a).take (b - a)) := by
    intro a b hab hb
    unfold pN
    congr 1
    apply ByteArray.ext
    rw [← Array.toList_inj, ByteArray.data_extract, Array.toList_extract]
    show ((dotted s).data.toList.extract a b) = _
    rw [hdl, List.extract_eq_take_drop, List.drop_append_of_le_length (by omega), List.take_append_of_le_length (by rw [List.length_drop]; omega)]
  intro n
  induction n with
  | zero =>
    intro f p fr acc hn hp hfr hf
    obtain rfl : p = s.size := by omega
    obtain ⟨f, rfl⟩ : ∃ g, f = g + 2 := ⟨f - 2, by omega⟩
    have hg : (dotted s).get! s.size = 46 := by
      rw [getAt _ _ (by omega)]
      simp only [hdl]
      rw [List.getElem_append_right (by omega)]
      simp [hls]
    rw [numGo, if_pos (by omega), if_pos hg, List.drop_of_length_le (by omega : s.data.toList.length ≤ s.size)]
    rw [hcur fr s.size hfr (Nat.le_refl _)]
    simp only [splitD, fin3]
    by_cases h3 : acc.length = 3
    · rw [if_pos h3, if_pos h3]
    · rw [if_neg h3, if_neg h3]
      congr 1
      funext v
      rw [numGo, if_neg (by omega)]
  | succ n ih =>
    intro f p fr acc hn hp hfr hf
    have hpl : p < s.size := by omega
    obtain ⟨f, rfl⟩ : ∃ g, f = g + 1 := ⟨f - 1, by omega⟩
    have hpl' : p < s.data.toList.length := by omega
    have hg : (dotted s).get! p = s.data.toList[p] := by
      rw [getAt _ _ (by omega)]
      simp only [hdl]
      rw [List.getElem_append_left hpl']
    rw [numGo, if_pos (by omega), hg, List.drop_eq_getElem_cons hpl']
    simp only [splitD]
    by_cases hc : s.data.toList[p] = 46
    · rw [if_pos hc, if_pos hc]
      simp only [fin3]
      by_cases h3 : acc.length = 3
      · rw [if_pos h3, if_pos h3]
      · rw [if_neg h3, if_neg h3, hcur fr p hfr (by omega)]
        congr 1
        funext v
        rw [ih f (p + 1) (p + 1) (acc ++ [v]) (by omega) (by omega) (by omega) (by omega), Nat.sub_self, List.take_zero]
    · rw [if_neg hc, if_neg hc, ih f (p + 1) fr acc (by omega) (by omega) (by omega) (by omega)]
      congr 2
      rw [show p + 1 - fr = (p - fr) + 1 by omega, List.take_add_one, List.getElem?_drop, show fr + (p - fr) = p by omega, List.getElem?_eq_getElem hpl']
      rfl
theorem num3_parts (s : ByteArray) : num3 s = fin3 [] (splitD [] s.data.toList) := by
  unfold num3
  rw [go_parts s s.size (s.size + 2) 0 0 [] (by omega) (by omega) (by omega) (by omega)]
  rfl
/-- What Parse says of a text's parts. -/
def told (ps : List (List UInt8)) : Int × Int × Int × Bool :=
  match ps with
  | [a, b, c] => match pN a, pN b, pN c with
    | some x, some y, some z => if x < 2147483648 ∧ y < 2147483648 then ((x : Int), (y : Int), (z : Int), true) else (0, 0, 0, false)
    | _, _, _ => (0, 0, 0, false)
  | _ => (0, 0, 0, false)
theorem fin3_four (acc : List Nat) (ps : List (List UInt8)) (h : 3 < acc.length + ps.length) (ha : acc.length ≤ 3) : fin3 acc ps = none := by
  induction ps generalizing acc with
  | nil => simp at h; omega
  | cons q qs ih =>
    simp only [fin3]
    by_cases h3 : acc.length = 3
    · rw [if_pos h3]
    · rw [if_neg h3]
      cases pN q with
      | none => rfl
      | some v => exact ih _ (by simp at h ⊢; omega) (by simp; omega)
theorem parse_told (s : ByteArray) (hs : s.size ≤ 140737488351232) : oid_Parse.f s = some (told (splitD [] s.data.toList)) := by
  unfold oid_Parse.f
  rw [if_pos hs, num3_parts]
  generalize splitD [] s.data.toList = ps
  match ps with
  | [] => rfl
  | [a] =>
    simp only [fin3, told]
    cases pN a <;> rfl
  | [a, b] =>
    simp only [fin3, told]
    cases pN a with
    | none => rfl
    | some x => cases pN b <;> rfl
  | [a, b, c] =>
    simp only [fin3, told]
    cases pN a with
    | none => rfl
    | some x =>
      cases pN b with
      | none => rfl
      | some y =>
        cases pN c with
        | none => rfl
        | some z =>
          show (if x < 2147483648 ∧ y < 2147483648 then some ((x : Int), (y : Int), (z : Int), true) else some (0, 0, 0, false)) = some (if x < 2147483648 ∧ y < 2147483648 then ((x : Int), (y : Int), (z : Int), true) else (0, 0, 0, false))
          split <;> rfl
  | a :: b :: c :: d :: r =>
    rw [fin3_four _ _ (by simp only [List.length_cons, List.length_nil]; omega) (by simp)]
    rfl
theorem split_app (q r : List UInt8) : ∀ (cur : List UInt8), (∀ c ∈ q, c ≠ 46) → splitD cur (q ++ 46 :: r) = (cur ++ q) :: splitD [] r := by
  induction q with
  | nil => intro cur _; simp [splitD]
  | cons c q ih =>
    intro cur h
    have hc := h c List.mem_cons_self
    simp only [List.cons_append, splitD]
    rw [if_neg hc, ih (cur ++ [c]) (fun x hx => h x (List.mem_cons_of_mem _ hx))]
    simp
theorem split_one (q : List UInt8) : ∀ (cur : List UInt8), (∀ c ∈ q, c ≠ 46) → splitD cur q = [cur ++ q] := by
  induction q with
  | nil => intro cur _; simp [splitD]
  | cons c q ih =>
    intro cur h
    have hc := h c List.mem_cons_self
    simp only [splitD]
    rw [if_neg hc, ih (cur ++ [c]) (fun x hx => h x (List.mem_cons_of_mem _ hx))]
    simp
theorem dec_no46 (n : Nat) : ∀ c ∈ Lib.decDigits n, c ≠ 46 := fun c hc e => by
  have := dec_isD n c hc
  rw [e] at this
  exact absurd this (by decide)
/-- A name's text. -/
def textL (x y z : Nat) : List UInt8 := Lib.decDigits x ++ 46 :: (Lib.decDigits y ++ 46 :: Lib.decDigits z)
theorem split_text (x y z : Nat) : splitD [] (textL x y z) = [Lib.decDigits x, Lib.decDigits y, Lib.decDigits z] := by
  unfold textL
  rw [split_app _ _ _ (dec_no46 x), split_app _ _ _ (dec_no46 y), split_one _ _ (dec_no46 z)]
  simp
/-- The parts, joined. -/
def joinD : List (List UInt8) → List UInt8
  | [] => []
  | [a] => a
  | a :: b :: r => a ++ 46 :: joinD (b :: r)
theorem split_ne : ∀ (r cur : List UInt8), splitD cur r ≠ [] := by
  intro r
  induction r with
  | nil => intro cur; simp [splitD]
  | cons c r ih =>
    intro cur
    simp only [splitD]
    split
    · simp
    · exact ih _
theorem join_split (r : List UInt8) : ∀ (cur : List UInt8), joinD (splitD cur r) = cur ++ r := by
  induction r with
  | nil => intro cur; simp [splitD, joinD]
  | cons c r ih =>
    intro cur
    simp only [splitD]
    split
    · rename_i hc
      have := ih []
      cases hx : splitD [] r with
      | nil => exact absurd hx (split_ne r [])
      | cons a b =>
        rw [hx] at this
        simp only [joinD]
        rw [this, hc]
        simp
    · rw [ih]
      simp
theorem told_text (x y z : Nat) (hx : x < 2147483648) (hy : y < 2147483648) (hz : z < 18446744073709551616) : told (splitD [] (textL x y z)) = ((x : Int), (y : Int), (z : Int), true) := by
  rw [split_text]
  have e1 : pN (Lib.decDigits x) = some x := (pN_iff _ _).2 ⟨rfl, by omega⟩
  have e2 : pN (Lib.decDigits y) = some y := (pN_iff _ _).2 ⟨rfl, by omega⟩
  have e3 : pN (Lib.decDigits z) = some z := (pN_iff _ _).2 ⟨rfl, hz⟩
  simp only [told, e1, e2, e3]
  rw [if_pos ⟨hx, hy⟩]
/-- What is told is a name's text, or there is none. -/
theorem told_cases (l : List UInt8) : told (splitD [] l) = (0, 0, 0, false) ∨ ∃ x y z : Nat, x < 2147483648 ∧ y < 2147483648 ∧ z < 18446744073709551616 ∧ told (splitD [] l) = ((x : Int), (y : Int), (z : Int), true) ∧ l = textL x y z := by
  have hj := join_split l []
  generalize splitD [] l = ps at *
  match ps, hj with
  | [], _ => exact .inl rfl
  | [a], _ => exact .inl rfl
  | [a, b], _ => exact .inl rfl
  | [a, b, c], hj =>
    cases ha : pN a with
    | none => left; simp only [told, ha]
    | some x =>
      cases hb : pN b with
      | none => left; simp only [told, ha, hb]
      | some y =>
        cases hc : pN c with
        | none => left; simp only [told, ha, hb, hc]
        | some z =>
          simp only [told, ha, hb, hc]
          by_cases h : x < 2147483648 ∧ y < 2147483648
          · right
            obtain ⟨h1, _⟩ := (pN_iff _ _).1 ha
            obtain ⟨h2, _⟩ := (pN_iff _ _).1 hb
            obtain ⟨h3, h4⟩ := (pN_iff _ _).1 hc
            refine ⟨x, y, z, h.1, h.2, h4, by rw [if_pos h], ?_⟩
            have hj' : joinD [a, b, c] = l := by simpa using hj
            rw [← hj', h1, h2, h3]
            rfl
          · left; rw [if_neg h]
  | a :: b :: c :: d :: r, _ => exact .inl rfl
end Go.Proofs.YtlbgepadkaehiaaDoor.Pure
