/- Headers decoded, names told, and the chapter's example. -/
import Derived.Test.YtlbgepadkaehiaaDoorOidHead
import Derived.Test.YtlbgepadkaehiaaDoorQx10
import Derived.Test.YtlbgepadkaehiaaDoorQx23
import Derived.Test.YtlbgepadkaehiaaDoorQx24
import Derived.Test.YtlbgepadkaehiaaDoorQx20
import Derived.Test.YtlbgepadkaehiaaDoorQx15
import Derived.Test.YtlbgepadkaehiaaDoorQx16
set_option linter.unusedVariables false
set_option linter.unusedSimpArgs false
namespace Go.Proofs.YtlbgepadkaehiaaDoor.Pure
open Go.RowKit Go.Proofs.YtlbgepadkaehiaaDoor.Q Go.Proofs.YtlbgepadkaehiaaDoorW.PrintWords Go.Proofs.YtlbgepadkaehiaaDoorW.PrintLast
theorem words_l0 (a b : List Int) (hab : a.length = b.length) (hm : a.length ≤ 9223372036854775806) : ∀ (d i : Nat), a.length - i = d → i ≤ a.length →
    Ev (fun k => lockfastref01_Words.l0 k a b (i : Int)) (decide (a.drop i = b.drop i)) := by
  intro d
  induction d with
  | zero =>
    intro i hd hi
    obtain rfl : i = a.length := by omega
    refine ev_next (f := fun _ => some true) (fun k => by simp only [lockfastref01_Words.l0]; rw [if_neg (by omega)]) (ev_eq (ev_some true) (by simp [hab]))
  | succ d ih =>
    intro i hd hi
    have ha : i < a.length := by omega
    have hb : i < b.length := by omega
    by_cases e : a[i] = b[i]
    · refine ev_next (f := fun k => lockfastref01_Words.l0 k a b ((i + 1 : Nat) : Int)) (fun k => ?_) (ev_eq (ih (i + 1) (by omega) (by omega)) ?_)
      · simp only [lockfastref01_Words.l0]
        rw [if_pos (by omega), if_pos (by omega), if_pos (by omega), rdI a i ha, rdI b i hb, if_pos e, w64 (by omega)]
        rfl
      · have ea := List.drop_eq_getElem_cons ha
        have eb := List.drop_eq_getElem_cons hb
        rw [ea, eb, e, decide_eq_decide]
        exact ⟨fun h => by rw [h], fun h => (List.cons.inj h).2⟩
    · refine ev_next (f := fun _ => some false) (fun k => ?_) (ev_eq (ev_some false) ?_)
      · simp only [lockfastref01_Words.l0]
        rw [if_pos (by omega), if_pos (by omega), if_pos (by omega), rdI a i ha, rdI b i hb, if_neg e]
      · have ea := List.drop_eq_getElem_cons ha
        have eb := List.drop_eq_getElem_cons hb
        rw [ea, eb, eq_comm, decide_eq_false_iff_not]
        exact fun h => e (List.cons.inj h).1
theorem words_ev (a b : List Int) (hm : a.length ≤ 9223372036854775806) : Ev (fun k => lockfastref01_Words.f k a b) (decide (a = b)) := by
  by_cases h : a.length = b.length
  · have h1 := words_l0 a b h hm a.length 0 (by omega) (by omega)
    refine Ev.congr (f := fun k => lockfastref01_Words.l0 k a b 0) (fun k => by simp only [lockfastref01_Words.f]; rw [if_pos (by omega)]) (by simpa using h1)
  · refine Ev.congr (f := fun _ => some false) (fun k => by simp only [lockfastref01_Words.f]; rw [if_neg (by omega)]) (ev_eq (ev_some false) ?_)
    rw [eq_comm, decide_eq_false_iff_not]; intro e; exact h (by rw [e])
theorem words_same (a b : List Int) (hm : a.length ≤ 9223372036854775806) (e : a = b) : Ev (fun k => lockfastref01_Words.f k a b) true := ev_eq (words_ev a b hm) (by simp [e])
/-- What two words or more tell. -/
def decR (w : Nat) (c : Int) : Int × Int × Int × Bool :=
  if rightH (w % 65536 : Nat) (w / 65536 % 65536 : Nat) c = true ∧ w / 4294967296 = 4200005632 then (((w % 65536 : Nat) : Int), ((w / 65536 % 65536 : Nat) : Int), c, true) else (0, 0, 0, false)
theorem getA (w : Nat) (hw : w < 18446744073709551616) : field_Get.f (w : Int) 0 16 = some ((w % 65536 : Nat) : Int) := by
  have h := get_gen w 0 16 hw mask16 fits0 (by omega) (by omega)
  rw [show w / 2 ^ 0 % 2 ^ 16 = w % 65536 by omega] at h
  exact h
theorem getB (w : Nat) (hw : w < 18446744073709551616) : field_Get.f (w : Int) 16 16 = some ((w / 65536 % 65536 : Nat) : Int) := by
  have h := get_gen w 16 16 hw mask16 fits16 (by omega) (by omega)
  rw [show w / 2 ^ 16 % 2 ^ 16 = w / 65536 % 65536 by omega] at h
  exact h
theorem decode_eq (l : List Int) (w : Nat) (c : Int) (hw : w < 18446744073709551616) (hl : 2 ≤ l.length) (h0 : rd l 0 = (w : Int)) (h1 : rd l 1 = c) (hc : 0 ≤ c) : oid_Decode.f l = some (decR w c) := by
  unfold oid_Decode.f decR
  rw [if_neg (by omega), if_pos (by omega), h0, h1, getA w hw, getB w hw]
  simp only [Option.bind_some]
  rw [if_pos (by omega), w64 (by omega), w64 (by omega), right_eq _ _ c hc]
  simp only [Option.bind_some]
  by_cases hr : rightH (w % 65536 : Nat) (w / 65536 % 65536 : Nat) c = true
  · rw [if_pos hr, first_eq _ _ c (by omega) (by omega)]
    simp only [Option.bind_some]
    by_cases hs : w / 4294967296 = 4200005632
    · rw [if_pos (by unfold firstN; omega), if_pos ⟨hr, hs⟩]
    · rw [if_neg (by unfold firstN; omega), if_neg (fun h => hs h.2)]
  · rw [if_neg hr, if_neg (fun h => hr h.1)]
theorem refDecode_eq (l : List Int) (w : Nat) (c : Int) (hw : w < 18446744073709551616) (hl : 2 ≤ l.length) (h0 : rd l 0 = (w : Int)) (h1 : rd l 1 = c) : lockfastref08_Decode.f l = some (decR w c) := by
  unfold lockfastref08_Decode.f decR
  have m1 : Int.tmod (w : Int) 65536 = ((w % 65536 : Nat) : Int) := (Int.ofNat_tmod w 65536).symm
  have d1 : Int.tdiv (w : Int) 65536 = ((w / 65536 : Nat) : Int) := (Int.ofNat_tdiv w 65536).symm
  have m2 : Int.tmod ((w / 65536 : Nat) : Int) 65536 = ((w / 65536 % 65536 : Nat) : Int) := (Int.ofNat_tmod (w / 65536) 65536).symm
  have d2 : Int.tdiv (w : Int) 4294967296 = ((w / 4294967296 : Nat) : Int) := (Int.ofNat_tdiv w 4294967296).symm
  rw [if_neg (by omega), if_pos (by omega), if_pos (by omega), h0, h1, m1, d1, d2, wu64 (w / 65536) (by omega), m2, wu64 (w / 4294967296) (by omega)]
  clear m1 d1 m2 d2
  rw [w64 (by omega), w64 (by omega), refRight_eq]
  simp only [Option.bind_some]
  by_cases hr : rightH (w % 65536 : Nat) (w / 65536 % 65536 : Nat) c = true
  · rw [if_pos hr]
    by_cases hs : w / 4294967296 = 4200005632
    · rw [if_pos (by omega), if_pos ⟨hr, hs⟩]
    · rw [if_neg (by omega), if_neg (fun h => hs h.2)]
  · rw [if_neg hr, if_neg (fun h => hr h.1)]
theorem decode_few (l : List Int) (hl : l.length < 2) : oid_Decode.f l = some (0, 0, 0, false) ∧ lockfastref08_Decode.f l = some (0, 0, 0, false) := by
  unfold oid_Decode.f lockfastref08_Decode.f
  rw [if_pos (by omega), if_pos (by omega)]
  exact ⟨rfl, rfl⟩
/-! Texts. -/
def dotB : ByteArray := ⟨#[46]⟩
def textB (x y z : Nat) : ByteArray := (((digB x ++ dotB) ++ digB y) ++ dotB) ++ digB z
theorem textB_list (x y z : Nat) : (textB x y z).data.toList = textL x y z := by
  unfold textB textL dotB
  simp only [ByteArray.data_append, Array.toList_append, digB_list, List.append_assoc]
  rfl
theorem digB_size (x : Nat) (h : x < 18446744073709551616) : (digB x).size ≤ 20 := by
  have := decDigits_len 19 x (by omega)
  have e : (digB x).size = (Lib.decDigits x).length := by
    show (Lib.decDigits x).toArray.size = _
    exact List.size_toArray
  omega
theorem app1 (a b : ByteArray) : (a ++ b).size = a.size + b.size := ByteArray.size_append
def textOf (a b c : Int) : ByteArray := if a < 0 ∨ b < 0 then ⟨#[]⟩ else textB a.toNat b.toNat c.toNat
theorem i64_range {x : Int} (h : (Lit.int .i64 x).wf = true) : -9223372036854775808 ≤ x ∧ x ≤ 9223372036854775807 := by
  have h1 : IntKind.i64.min = -9223372036854775808 := by decide
  have h2 : IntKind.i64.max = 9223372036854775807 := by decide
  simp only [Lit.wf, Bool.and_eq_true, decide_eq_true_eq] at h
  omega
theorem u64_range {x : Int} (h : (Lit.int .u64 x).wf = true) : 0 ≤ x ∧ x ≤ 18446744073709551615 := by
  have h1 : IntKind.u64.min = 0 := by decide
  have h2 : IntKind.u64.max = 18446744073709551615 := by decide
  simp only [Lit.wf, Bool.and_eq_true, decide_eq_true_eq] at h
  omega
theorem text_j0 (a b c : Int) (ha : a ≤ 9223372036854775807) (hb : b ≤ 9223372036854775807) (hc : 0 ≤ c ∧ c ≤ 18446744073709551615) (x : Bool) (hx : x = decide (a < 0 ∨ b < 0)) : Ev (fun k => oid_Text.j0 k x a b c) (textOf a b c) := by
  unfold textOf
  by_cases h : a < 0 ∨ b < 0
  · rw [if_pos h]
    rw [decide_eq_true h] at hx
    subst hx
    exact ev_next (f := fun _ => some (⟨#[]⟩ : ByteArray)) (fun k => by simp only [oid_Text.j0]; rfl) (ev_some _)
  · rw [if_neg h]
    rw [decide_eq_false h] at hx
    subst hx
    have s1 := digB_size a.toNat (by omega)
    have s2 := digB_size b.toNat (by omega)
    have s3 := digB_size c.toNat (by omega)
    have sd : dotB.size = 1 := rfl
    refine ev_next (f := fun _ => some (textB a.toNat b.toNat c.toNat)) (fun k => ?_) (ev_some _)
    simp only [oid_Text.j0]
    rw [if_neg (by decide)]
    have i1 : strconv_Itoa_21.f a = some (digB a.toNat) := if_pos ⟨by omega, ha⟩
    have i2 : strconv_Itoa_21.f b = some (digB b.toNat) := if_pos ⟨by omega, hb⟩
    have i3 : strconv_FormatUint_22.f c 10 = some (digB c.toNat) := if_pos ⟨hc, rfl⟩
    show _ = some ((((digB a.toNat ++ dotB) ++ digB b.toNat) ++ dotB) ++ digB c.toNat)
    rw [i1, i2, i3]
    simp only [Option.bind_some]
    rw [show (⟨#[46]⟩ : ByteArray) = dotB from rfl, if_pos (by omega), if_pos (by rw [app1]; omega), if_pos (by rw [app1, app1]; omega), if_pos (by rw [app1, app1, app1]; omega)]
theorem text_ev (a b c : Int) (ha : a ≤ 9223372036854775807) (hb : b ≤ 9223372036854775807) (hc : 0 ≤ c ∧ c ≤ 18446744073709551615) : Ev (fun k => oid_Text.f k a b c) (textOf a b c) := by
  by_cases h : a < 0
  · exact Ev.congr (f := fun k => oid_Text.j0 k true a b c) (fun k => by simp only [oid_Text.f]; rw [if_pos h]) (text_j0 a b c ha hb hc _ (by simp [h]))
  · exact Ev.congr (f := fun k => oid_Text.j0 k (decide (b < 0)) a b c) (fun k => by simp only [oid_Text.f]; rw [if_neg h]) (text_j0 a b c ha hb hc _ (by simp [h]))
theorem refText_j0 (a b c : Int) (ha : a ≤ 9223372036854775807) (hb : b ≤ 9223372036854775807) (hc : 0 ≤ c ∧ c ≤ 18446744073709551615) (x : Bool) (hx : x = decide (a < 0 ∨ b < 0)) : Ev (fun k => lockfastref08_Text.j0 k x a b c) (textOf a b c) := by
  unfold textOf
  by_cases h : a < 0 ∨ b < 0
  · rw [if_pos h]
    rw [decide_eq_true h] at hx
    subst hx
    exact ev_next (f := fun _ => some (⟨#[]⟩ : ByteArray)) (fun k => by simp only [lockfastref08_Text.j0]; rfl) (ev_some _)
  · rw [if_neg h]
    rw [decide_eq_false h] at hx
    subst hx
    have s1 := digB_size a.toNat (by omega)
    have s2 := digB_size b.toNat (by omega)
    have s3 := digB_size c.toNat (by omega)
    have sd : dotB.size = 1 := rfl
    refine ev_next (f := fun _ => some (textB a.toNat b.toNat c.toNat)) (fun k => ?_) (ev_some _)
    simp only [lockfastref08_Text.j0]
    rw [if_neg (by decide)]
    have wa : IntKind.u64.wrap a = a := by have := wu64 a.toNat (by omega); rwa [Int.toNat_of_nonneg (by omega)] at this
    have wb : IntKind.u64.wrap b = b := by have := wu64 b.toNat (by omega); rwa [Int.toNat_of_nonneg (by omega)] at this
    have i1 : lockfastref08_digits.f a = some (digB a.toNat) := if_pos ⟨by omega, by omega⟩
    have i2 : lockfastref08_digits.f b = some (digB b.toNat) := if_pos ⟨by omega, by omega⟩
    have i3 : lockfastref08_digits.f c = some (digB c.toNat) := if_pos hc
    show _ = some ((((digB a.toNat ++ dotB) ++ digB b.toNat) ++ dotB) ++ digB c.toNat)
    rw [wa, wb, i1, i2, i3]
    simp only [Option.bind_some]
    rw [show (⟨#[46]⟩ : ByteArray) = dotB from rfl, if_pos (by omega), if_pos (by rw [app1]; omega), if_pos (by rw [app1, app1]; omega), if_pos (by rw [app1, app1, app1]; omega)]
theorem refText_ev (a b c : Int) (ha : a ≤ 9223372036854775807) (hb : b ≤ 9223372036854775807) (hc : 0 ≤ c ∧ c ≤ 18446744073709551615) : Ev (fun k => lockfastref08_Text.f k a b c) (textOf a b c) := by
  by_cases h : a < 0
  · exact Ev.congr (f := fun k => lockfastref08_Text.j0 k true a b c) (fun k => by simp only [lockfastref08_Text.f]; rw [if_pos h]) (refText_j0 a b c ha hb hc _ (by simp [h]))
  · exact Ev.congr (f := fun k => lockfastref08_Text.j0 k (decide (b < 0)) a b c) (fun k => by simp only [lockfastref08_Text.f]; rw [if_neg h]) (refText_j0 a b c ha hb hc _ (by simp [h]))
/-! The chapter's example. -/
theorem ex_text : textL 85 3 7 = [56, 53, 46, 51, 46, 55] := by
  unfold textL
  rw [decDigits_big 85 (by omega), decDigits_small 3 (by omega), decDigits_small 7 (by omega), show 85 / 10 = 8 from rfl, decDigits_small 8 (by omega)]
  decide
theorem awake_ev : Ev (fun k => lockfastlaw08_awake.f k) true := by
  unfold lockfastlaw08_awake.f
  have hp : oid_Parse.f (⟨#[56, 53, 46, 51, 46, 55]⟩ : ByteArray) = some (85, 3, 7, true) := by
    rw [parse_told _ (by decide)]
    have : (⟨#[56, 53, 46, 51, 46, 55]⟩ : ByteArray).data.toList = textL 85 3 7 := by rw [ex_text]
    rw [this, told_text 85 3 7 (by omega) (by omega) (by omega)]
    rfl
  have he : oid_Encode.f 3 2 7 = some ([(firstN 3 2 : Int), 7], 0) := by rw [encode_eq 3 2 7 (by omega)]; rfl
  rw [hp, he]
  simp only [Option.bind_some]
  refine Ev.congr (f := fun k => (oid_Text.f k 85 3 7).bind fun t161 => if t161.toList = ([56, 53, 46, 51, 46, 55] : List UInt8) then some true else some false) (fun k => ?_) ?_
  · rfl
  · refine Ev.bind (text_ev 85 3 7 (by omega) (by omega) (by omega)) ?_
    have : (textOf 85 3 7).toList = [56, 53, 46, 51, 46, 55] := by
      rw [ByteArray.toList_eq]
      show (textB 85 3 7).data.toList = _
      rw [textB_list, ex_text]
    exact Ev.congr (f := fun _ => some true) (fun k => by rw [if_pos this]) (ev_some _)
end Go.Proofs.YtlbgepadkaehiaaDoor.Pure
