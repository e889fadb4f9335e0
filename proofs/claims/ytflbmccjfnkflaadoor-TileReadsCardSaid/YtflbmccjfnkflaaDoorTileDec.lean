/- The chunk of a word: what Decode and the reference's answer. -/
import Derived.Test.YtflbmccjfnkflaaDoorTileRight0
import Derived.Test.YtflbmccjfnkflaaDoorTileBits
import Derived.Test.YtflbmccjfnkflaaDoorQx9
import Derived.Test.YtflbmccjfnkflaaDoorQx10
import Derived.Test.YtflbmccjfnkflaaDoorQx19
import Derived.Test.YtflbmccjfnkflaaDoorQx4
set_option linter.unusedVariables false
set_option linter.unusedSimpArgs false
namespace Go.Proofs.YtflbmccjfnkflaaDoor.Pure
open Go.RowKit Go.Proofs.YtflbmccjfnkflaaDoor.Q Go.Proofs.YtflbmccjfnkflaaDoorW.PrintWords Go.Proofs.YtflbmccjfnkflaaDoorW.PrintLast Go.Proofs.YtflbmccjfnkflaaDoorW.PrintMore
/-- The chunk of a word, or none. -/
def decT (w : Nat) : Int × Int × Int × Int × Int × Bool :=
  if refRight ((w % 8 : Nat) : Int) ((w / 8 % 4 : Nat) : Int) ((w / 32 % 64 : Nat) : Int) ((w / 2048 % 8192 : Nat) : Int) ((w / 16777216 % 256 : Nat) : Int) = true ∧ w < 4294967296 then
    (((w % 8 : Nat) : Int), ((w / 8 % 4 : Nat) : Int), ((w / 32 % 64 : Nat) : Int), ((w / 2048 % 8192 : Nat) : Int), ((w / 16777216 % 256 : Nat) : Int), true)
  else (0, 0, 0, 0, 0, false)
theorem word_eq (k c l m b : Nat) (hk : k < 8) (hc : c < 4) (hl : l < 64) (hm : m < 8192) (hb : b < 256) : chunk_word.f (k : Int) (c : Int) (l : Int) (m : Int) (b : Int) = some ((k + 8 * c + 32 * l + 2048 * m + 16777216 * b : Nat) : Int) := by
  unfold chunk_word.f
  rw [wu64 k (by omega), wu64 c (by omega), wu64 l (by omega), wu64 m (by omega)]
  have p1 := put_gen 0 k 0 3 7 mask3 (by decide +kernel) (by omega) (by omega) (by omega) (by omega)
  have p2 := put_gen (0 + k * 2 ^ 0) c 3 2 3 mask2 (by decide +kernel) (by omega) (by omega) (by omega) (by omega)
  have p3 := put_gen (0 + k * 2 ^ 0 + c * 2 ^ 3) l 5 6 63 mask6 (by decide +kernel) (by omega) (by omega) (by omega) (by omega)
  have p4 := put_gen (0 + k * 2 ^ 0 + c * 2 ^ 3 + l * 2 ^ 5) m 11 13 8191 mask13 (by decide +kernel) (by omega) (by omega) (by omega) (by omega)
  have p5 := put_gen (0 + k * 2 ^ 0 + c * 2 ^ 3 + l * 2 ^ 5 + m * 2 ^ 11) b 24 8 255 mask8 (by decide +kernel) (by omega) (by omega) (by omega) (by omega)
  rw [show ((0 : Nat) : Int) = 0 from rfl] at p1
  simp only [Int.cast_ofNat_Int] at p1 p2 p3 p4 p5
  rw [p1, Option.bind_some, p2, Option.bind_some, p3, Option.bind_some, p4, Option.bind_some, p5]
  congr 2
  omega
theorem get1 (w : Nat) (hw : w < 18446744073709551616) : chunk_place_get.f 0 3 (w : Int) = some ((w % 8 : Nat) : Int) := by
  have g := get_gen w 0 3 hw mask3 (by decide +kernel) (by omega) (by omega)
  rw [show w / 2 ^ 0 % 2 ^ 3 = w % 8 by omega] at g
  exact g
theorem get2 (w : Nat) (hw : w < 18446744073709551616) : chunk_place_get.f 3 2 (w : Int) = some ((w / 8 % 4 : Nat) : Int) := by
  have g := get_gen w 3 2 hw mask2 (by decide +kernel) (by omega) (by omega)
  rw [show w / 2 ^ 3 % 2 ^ 2 = w / 8 % 4 by omega] at g
  exact g
theorem get3 (w : Nat) (hw : w < 18446744073709551616) : chunk_place_get.f 5 6 (w : Int) = some ((w / 32 % 64 : Nat) : Int) := by
  have g := get_gen w 5 6 hw mask6 (by decide +kernel) (by omega) (by omega)
  rw [show w / 2 ^ 5 % 2 ^ 6 = w / 32 % 64 by omega] at g
  exact g
theorem get4 (w : Nat) (hw : w < 18446744073709551616) : chunk_place_get.f 11 13 (w : Int) = some ((w / 2048 % 8192 : Nat) : Int) := by
  have g := get_gen w 11 13 hw mask13 (by decide +kernel) (by omega) (by omega)
  rw [show w / 2 ^ 11 % 2 ^ 13 = w / 2048 % 8192 by omega] at g
  exact g
theorem get5 (w : Nat) (hw : w < 18446744073709551616) : chunk_place_get.f 24 8 (w : Int) = some ((w / 16777216 % 256 : Nat) : Int) := by
  have g := get_gen w 24 8 hw mask8 (by decide +kernel) (by omega) (by omega)
  rw [show w / 2 ^ 24 % 2 ^ 8 = w / 16777216 % 256 by omega] at g
  exact g
theorem dec_tail (w k c l m b : Nat) (hk : k < 8) (hc : c < 4) (hl : l < 64) (hm : m < 8192) (hb : b < 256) :
    ((chunk_Right.f (wrap64 (k : Int)) (wrap64 (c : Int)) (wrap64 (l : Int)) (wrap64 (m : Int)) (b : Int)).bind fun t142 => (if t142 = true then ((chunk_word.f (wrap64 (k : Int)) (wrap64 (c : Int)) (wrap64 (l : Int)) (wrap64 (m : Int)) (b : Int)).bind fun t143 => (if t143 = (w : Int) then (some (wrap64 (k : Int), wrap64 (c : Int), wrap64 (l : Int), wrap64 (m : Int), (b : Int), true)) else (some (0, 0, 0, 0, 0, false)))) else (some (0, 0, 0, 0, 0, false))))
    = some (if refRight (k : Int) (c : Int) (l : Int) (m : Int) (b : Int) = true ∧ k + 8 * c + 32 * l + 2048 * m + 16777216 * b = w then ((k : Int), (c : Int), (l : Int), (m : Int), (b : Int), true) else (0, 0, 0, 0, 0, false)) := by
  rw [w64 (x := (k : Int)) (by omega), w64 (x := (c : Int)) (by omega), w64 (x := (l : Int)) (by omega), w64 (x := (m : Int)) (by omega), right_eq, word_eq k c l m b hk hc hl hm hb]
  simp only [Option.bind_some]
  by_cases hr : refRight (k : Int) (c : Int) (l : Int) (m : Int) (b : Int) = true
  · rw [if_pos hr]
    by_cases hlt : k + 8 * c + 32 * l + 2048 * m + 16777216 * b = w
    · rw [if_pos (show ((k + 8 * c + 32 * l + 2048 * m + 16777216 * b : Nat) : Int) = (w : Int) by omega), if_pos ⟨hr, hlt⟩]
    · rw [if_neg (show ¬ (((k + 8 * c + 32 * l + 2048 * m + 16777216 * b : Nat) : Int) = (w : Int)) by omega), if_neg (fun h => hlt h.2)]
  · rw [if_neg hr, if_neg (fun h => hr h.1)]
theorem sum_iff (w : Nat) : w % 8 + 8 * (w / 8 % 4) + 32 * (w / 32 % 64) + 2048 * (w / 2048 % 8192) + 16777216 * (w / 16777216 % 256) = w ↔ w < 4294967296 := by omega
theorem decode_gen (w k c l m b : Nat) (hk : k < 8) (hc : c < 4) (hl : l < 64) (hm : m < 8192) (hb : b < 256) (g1 : chunk_place_get.f 0 3 (w : Int) = some (k : Int)) (g2 : chunk_place_get.f 3 2 (w : Int) = some (c : Int))
    (g3 : chunk_place_get.f 5 6 (w : Int) = some (l : Int)) (g4 : chunk_place_get.f 11 13 (w : Int) = some (m : Int)) (g5 : chunk_place_get.f 24 8 (w : Int) = some (b : Int)) :
    chunk_Decode.f (w : Int) = some (if refRight (k : Int) (c : Int) (l : Int) (m : Int) (b : Int) = true ∧ k + 8 * c + 32 * l + 2048 * m + 16777216 * b = w then ((k : Int), (c : Int), (l : Int), (m : Int), (b : Int), true) else (0, 0, 0, 0, 0, false)) := by
  unfold chunk_Decode.f chunk_kinds.f chunk_classes.f chunk_lanes.f chunk_manys.f chunk_bits.f
  rw [Option.bind_some, show chunk_place_get.f ((0 : Int), (3 : Int)).1 ((0 : Int), (3 : Int)).2 (w : Int) = some (k : Int) from g1, Option.bind_some]
  rw [Option.bind_some, show chunk_place_get.f ((3 : Int), (2 : Int)).1 ((3 : Int), (2 : Int)).2 (w : Int) = some (c : Int) from g2, Option.bind_some]
  rw [Option.bind_some, show chunk_place_get.f ((5 : Int), (6 : Int)).1 ((5 : Int), (6 : Int)).2 (w : Int) = some (l : Int) from g3, Option.bind_some]
  rw [Option.bind_some, show chunk_place_get.f ((11 : Int), (13 : Int)).1 ((11 : Int), (13 : Int)).2 (w : Int) = some (m : Int) from g4, Option.bind_some]
  rw [Option.bind_some, show chunk_place_get.f ((24 : Int), (8 : Int)).1 ((24 : Int), (8 : Int)).2 (w : Int) = some (b : Int) from g5, Option.bind_some]
  exact dec_tail w k c l m b hk hc hl hm hb
/-- The chunk of a word's parts, or none. -/
def decP (k c l m b : Nat) (ok : Prop) [Decidable ok] : Int × Int × Int × Int × Int × Bool :=
  if refRight (k : Int) (c : Int) (l : Int) (m : Int) (b : Int) = true ∧ ok then ((k : Int), (c : Int), (l : Int), (m : Int), (b : Int), true) else (0, 0, 0, 0, 0, false)
theorem decP_congr (k c l m b : Nat) (p q : Prop) [Decidable p] [Decidable q] (h : p ↔ q) : decP k c l m b p = decP k c l m b q := by
  unfold decP
  by_cases hx : refRight (k : Int) (c : Int) (l : Int) (m : Int) (b : Int) = true ∧ p
  · rw [if_pos hx, if_pos ⟨hx.1, h.1 hx.2⟩]
  · rw [if_neg hx, if_neg (fun hh => hx ⟨hh.1, h.2 hh.2⟩)]
theorem decT_eq (w : Nat) : decT w = decP (w % 8) (w / 8 % 4) (w / 32 % 64) (w / 2048 % 8192) (w / 16777216 % 256) (w < 4294967296) := rfl
theorem decode_eq (w : Nat) (hw : w < 18446744073709551616) : chunk_Decode.f (w : Int) = some (decT w) := by
  rw [decT_eq, decP_congr _ _ _ _ _ _ _ (sum_iff w).symm]
  exact decode_gen w _ _ _ _ _ (by omega) (by omega) (by omega) (by omega) (by omega) (get1 w hw) (get2 w hw) (get3 w hw) (get4 w hw) (get5 w hw)
theorem refDecode_eq (w : Nat) (hw : w < 18446744073709551616) : lockfastref10_Decode.f (w : Int) = some (decT w) := by
  have t1 : Int.tmod (w : Int) 8 = ((w % 8 : Nat) : Int) := by rw [Int.tmod_eq_emod_of_nonneg (by omega)]; omega
  have d (n : Nat) : Int.tdiv (w : Int) (n : Int) = ((w / n : Nat) : Int) := by rw [Int.tdiv_eq_ediv_of_nonneg (by omega)]; norm_cast
  have d8 := d 8
  have d32 := d 32
  have d2048 := d 2048
  have d16 := d 16777216
  have d42 := d 4294967296
  simp only [Int.cast_ofNat_Int] at d8 d32 d2048 d16 d42
  unfold lockfastref10_Decode.f lockfastref10_Right.f
  rw [t1, d8, d32, d2048, d16, d42, wu64 _ (by omega), wu64 _ (by omega), wu64 _ (by omega), wu64 _ (by omega), wu64 _ (by omega)]
  have t2 : Int.tmod ((w / 8 : Nat) : Int) 4 = ((w / 8 % 4 : Nat) : Int) := by rw [Int.tmod_eq_emod_of_nonneg (by omega)]; omega
  have t3 : Int.tmod ((w / 32 : Nat) : Int) 64 = ((w / 32 % 64 : Nat) : Int) := by rw [Int.tmod_eq_emod_of_nonneg (by omega)]; omega
  have t4 : Int.tmod ((w / 2048 : Nat) : Int) 8192 = ((w / 2048 % 8192 : Nat) : Int) := by rw [Int.tmod_eq_emod_of_nonneg (by omega)]; omega
  have t5 : Int.tmod ((w / 16777216 : Nat) : Int) 256 = ((w / 16777216 % 256 : Nat) : Int) := by rw [Int.tmod_eq_emod_of_nonneg (by omega)]; omega
  rw [t2, t3, t4, t5]
  rw [w64 (x := ((w % 8 : Nat) : Int)) (by omega), w64 (x := ((w / 8 % 4 : Nat) : Int)) (by omega), w64 (x := ((w / 32 % 64 : Nat) : Int)) (by omega), w64 (x := ((w / 2048 % 8192 : Nat) : Int)) (by omega)]
  simp only [Option.bind_some]
  unfold decT
  by_cases hr : refRight ((w % 8 : Nat) : Int) ((w / 8 % 4 : Nat) : Int) ((w / 32 % 64 : Nat) : Int) ((w / 2048 % 8192 : Nat) : Int) ((w / 16777216 % 256 : Nat) : Int) = true
  · rw [if_pos hr]
    by_cases hlt : w < 4294967296
    · rw [if_pos (by omega), if_pos ⟨hr, hlt⟩]
    · rw [if_neg (by omega), if_neg (fun h => hlt h.2)]
  · rw [if_neg hr, if_neg (fun h => hr h.1)]
end Go.Proofs.YtflbmccjfnkflaaDoor.Pure
