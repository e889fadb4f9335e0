/- The chunk that can be. -/
import Derived.Test.YtflbmccjfnkflaaDoorQx9
import Derived.Test.YtflbmccjfnkflaaDoorQx10
import Derived.Test.YtflbmccjfnkflaaDoorQx19
import Derived.Test.YtflbmccjfnkflaaDoorQx4
import Derived.Test.YtflbmccjfnkflaaDoorQx8
import Derived.Test.YtflbmccjfnkflaaDoorQx18
import Derived.Test.YtflbmccjfnkflaaDoorQx7
set_option linter.unusedVariables false
set_option linter.unusedSimpArgs false
namespace Go.Proofs.YtflbmccjfnkflaaDoor.Pure
open Go.RowKit Go.Proofs.YtflbmccjfnkflaaDoor.Q Go.Proofs.YtflbmccjfnkflaaDoorW.PrintWords Go.Proofs.YtflbmccjfnkflaaDoorW.PrintLast Go.Proofs.YtflbmccjfnkflaaDoorW.PrintMore
theorem someB {a b : Bool} (h : a = true ↔ b = true) : some a = some b := by rw [Bool.eq_iff_iff.2 h]
theorem shl8 : shl .u64 1 8 = 256 := by decide +kernel
theorem shl4 : shl .u64 1 4 = 16 := by decide +kernel
theorem shl2 : shl .u64 1 2 = 4 := by decide +kernel
theorem right_eq (k c l m b : Int) : chunk_Right.f k c l m b = some (refRight k c l m b) := by
  unfold chunk_Right.f chunk_right.f chunk_own.f refRight
  by_cases k1 : k = 1
  · subst k1
    simp only [if_true, show ¬((1 : Int) = 0 ∨ (1 : Int) = 3) by omega, if_false]
    by_cases c0 : c ≥ 0
    · rw [if_pos c0]
      by_cases c3 : c < 3
      · rw [if_pos c3]
        unfold class_Many.f
        simp only [Option.bind_some]
        rcases (show c = 0 ∨ c = 1 ∨ c = 2 by omega) with rfl | rfl | rfl
        · simp only [manyW, if_true, show (0 : Int) ≤ 8 by omega, shl8, Option.bind_some, decide_eq_true_eq]
          split
          · (try simp only [Option.bind_some]); refine someB ?_; simp only [Bool.and_eq_true, beq_iff_eq, decide_eq_true_eq]; (try simp only [true_and, and_true, false_and, and_false, or_false, false_or, true_or, or_true, true_iff, iff_true]) <;> omega
          · refine someB ?_; simp only [decide_eq_true_eq, Bool.false_eq_true, false_iff]; (try simp only [true_and, and_true, false_and, and_false, or_false, false_or, true_or, or_true, true_iff, iff_true]) <;> omega
        · simp only [manyW, show ¬((1 : Int) = 0) by omega, if_false, if_true, show (0 : Int) ≤ 4 by omega, shl4, Option.bind_some, decide_eq_true_eq]
          split
          · (try simp only [Option.bind_some]); refine someB ?_; simp only [Bool.and_eq_true, beq_iff_eq, decide_eq_true_eq]; (try simp only [true_and, and_true, false_and, and_false, or_false, false_or, true_or, or_true, true_iff, iff_true]) <;> omega
          · refine someB ?_; simp only [decide_eq_true_eq, Bool.false_eq_true, false_iff]; (try simp only [true_and, and_true, false_and, and_false, or_false, false_or, true_or, or_true, true_iff, iff_true]) <;> omega
        · simp only [manyW, show ¬((2 : Int) = 0) by omega, show ¬((2 : Int) = 1) by omega, if_false, if_true, show (0 : Int) ≤ 2 by omega, shl2, Option.bind_some, decide_eq_true_eq]
          split
          · (try simp only [Option.bind_some]); refine someB ?_; simp only [Bool.and_eq_true, beq_iff_eq, decide_eq_true_eq]; (try simp only [true_and, and_true, false_and, and_false, or_false, false_or, true_or, or_true, true_iff, iff_true]) <;> omega
          · refine someB ?_; simp only [decide_eq_true_eq, Bool.false_eq_true, false_iff]; (try simp only [true_and, and_true, false_and, and_false, or_false, false_or, true_or, or_true, true_iff, iff_true]) <;> omega
      · rw [if_neg c3]
        (try simp only [Option.bind_some, Bool.false_eq_true, if_false]); refine someB ?_; simp only [decide_eq_true_eq, Bool.false_eq_true, false_iff]; (try simp only [true_and, and_true, false_and, and_false, or_false, false_or, true_or, or_true, true_iff, iff_true]) <;> omega
    · rw [if_neg c0]
      (try simp only [Option.bind_some, Bool.false_eq_true, if_false]); refine someB ?_; simp only [decide_eq_true_eq, Bool.false_eq_true, false_iff]; (try simp only [true_and, and_true, false_and, and_false, or_false, false_or, true_or, or_true, true_iff, iff_true]) <;> omega
  by_cases k2 : k = 2
  · subst k2
    simp only [if_true, if_false, show ¬((2 : Int) = 0 ∨ (2 : Int) = 3) by omega, show ¬((2 : Int) = 1) by omega]
    by_cases m1 : m ≥ 1
    · rw [if_pos m1]
      by_cases m2 : m ≤ 8191
      · (try simp only [m2, decide_true, Option.bind_some, if_true]); refine someB ?_; simp only [Bool.and_eq_true, beq_iff_eq, decide_eq_true_eq]; (try simp only [true_and, and_true, false_and, and_false, or_false, false_or, true_or, or_true, true_iff, iff_true]) <;> omega
      · rw [show decide (m ≤ 8191) = false by simpa using m2]; (try simp only [Option.bind_some, Bool.false_eq_true, if_false]); refine someB ?_; simp only [decide_eq_true_eq, Bool.false_eq_true, false_iff]; (try simp only [true_and, and_true, false_and, and_false, or_false, false_or, true_or, or_true, true_iff, iff_true]) <;> omega
    · rw [if_neg m1]
      (try simp only [Option.bind_some, Bool.false_eq_true, if_false]); refine someB ?_; simp only [decide_eq_true_eq, Bool.false_eq_true, false_iff]; (try simp only [true_and, and_true, false_and, and_false, or_false, false_or, true_or, or_true, true_iff, iff_true]) <;> omega
  by_cases k4 : k = 4
  · subst k4
    simp only [if_true, if_false, show ¬((4 : Int) = 0 ∨ (4 : Int) = 3) by omega, show ¬((4 : Int) = 1) by omega, show ¬((4 : Int) = 2) by omega]
    by_cases hh : 0 ≤ l ∧ l < 64 ∧ 0 ≤ m ∧ m < 8
    · rw [if_pos hh.1, if_pos hh.2.1, if_pos hh.2.2.1]
      (try simp only [hh.2.2.2, decide_true, Option.bind_some, if_true]); refine someB ?_; simp only [Bool.and_eq_true, beq_iff_eq, decide_eq_true_eq]; (try simp only [true_and, and_true, false_and, and_false, or_false, false_or, true_or, or_true, true_iff, iff_true]) <;> omega
    · have e : (if l ≥ 0 then (if l < 64 then (if m ≥ 0 then (some (decide (m < 8))) else (some false)) else (some false)) else (some false)) = some false := by
        split
        · split
          · split
            · simp only [Option.some.injEq, decide_eq_false_iff_not]; omega
            · rfl
          · rfl
        · rfl
      rw [e]
      (try simp only [Option.bind_some, Bool.false_eq_true, if_false]); refine someB ?_; simp only [decide_eq_true_eq, Bool.false_eq_true, false_iff]; (try simp only [true_and, and_true, false_and, and_false, or_false, false_or, true_or, or_true, true_iff, iff_true]) <;> omega
  simp only [k1, k2, k4, if_false]
  by_cases k0 : k = 0
  · subst k0
    (try simp only [if_true, Option.bind_some, true_or]); refine someB ?_; simp only [Bool.and_eq_true, beq_iff_eq, decide_eq_true_eq]; (try simp only [true_and, and_true, false_and, and_false, or_false, false_or, true_or, or_true, true_iff, iff_true]) <;> omega
  by_cases k3 : k = 3
  · subst k3
    (try simp only [if_true, if_false, Option.bind_some, or_true]); refine someB ?_; simp only [Bool.and_eq_true, beq_iff_eq, decide_eq_true_eq, show ¬((3 : Int) = 0) by omega, show ((3 : Int) == 3) = true from rfl]; (try simp only [true_and, and_true, false_and, and_false, or_false, false_or, true_or, or_true, true_iff, iff_true]) <;> omega
  have e3 : (k == 3) = false := by simpa using k3
  simp only [k0, k3, e3, if_false, or_self, Option.bind_some, Bool.false_eq_true]

end Go.Proofs.YtflbmccjfnkflaaDoor.Pure
