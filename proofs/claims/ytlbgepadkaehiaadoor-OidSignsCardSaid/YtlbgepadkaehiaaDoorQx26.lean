-- Written by lfprint.py of this session's own, by way of the kit's print.py; with hand-made contracts.
import Derived.Test.YtlbgepadkaehiaaDoorQx0
import Derived.Test.YtlbgepadkaehiaaDoorQx4
import Derived.Test.YtlbgepadkaehiaaDoorQx10
import Derived.Test.YtlbgepadkaehiaaDoorQx16
import Derived.Test.YtlbgepadkaehiaaDoorQx23
import Derived.Test.YtlbgepadkaehiaaDoorQx26p1
import Derived.Test.YtlbgepadkaehiaaDoorQx26p2
import Derived.Test.YtlbgepadkaehiaaDoorQx26p3
namespace Go.Proofs.YtlbgepadkaehiaaDoor.Q
open Go.RowKit Go.Proofs.YtlbgepadkaehiaaDoorW.PrintWords Go.Proofs.YtlbgepadkaehiaaDoorW.PrintLast Go.Proofs.YtlbgepadkaehiaaDoorW.PrintMore
attribute [local go_sem] max2_int min2_int max_two min_two max_three min_three max_four min_four   -- for this text's walks alone
set_option linter.unusedVariables false
set_option linter.unusedSimpArgs false

/-! ### lockfastlaw08_OidSigns: function 6 -/
def lockfastlaw08_OidSigns.f (k : Nat) (a0_0 : Int) (a0_1 : Int) (a0_2 : Int) (a1 : Int) : Option (Bool) := (lockfastlaw08_awake.f k).bind fun t272 => ((oid_Encode.f a0_0 a0_1 a0_2).bind fun bt273 => (if bt273.2 = 0 then (if (bt273.1.length : Int) = 2 then (if 0 < (bt273.1.length : Int) then (if 1 < (bt273.1.length : Int) then ((oid_Decode.f (([Go.bits .xor .u64 (rd bt273.1 0) (shl .u64 1 ((32 + (Int.tmod a1 32)) % 256)), rd bt273.1 1] : List Int))).bind fun bt282 => ((oid_Decode.f (([rd bt273.1 0, 0] : List Int))).bind fun bt291 => (if 1 ≤ (bt273.1.length : Int) then ((oid_Decode.f (bt273.1.take 1)).bind fun bt300 => ((oid_Decode.f (([rd bt273.1 0, rd bt273.1 1, Go.bits .xor .u64 (rd bt273.1 0) (shl .u64 1 ((32 + (Int.tmod a1 32)) % 256))] : List Int))).bind fun bt310 => (if t272 = true then (if bt282.2.2.2 = true then (some false) else (if bt291.2.2.2 = true then (some false) else (if bt300.2.2.2 = true then (some false) else (some bt310.2.2.2)))) else (some false)))) else (none)))) else (none)) else (none)) else (some false)) else (if t272 = true then (some ((bt273.1.length : Int) == 0)) else (some false))))
theorem lockfastlaw08_OidSigns.mono : ∀ a0 a1 a2 a3 k, LeO (lockfastlaw08_OidSigns.f k a0 a1 a2 a3) (lockfastlaw08_OidSigns.f (k + 1) a0 a1 a2 a3) := by
  intro a0 a1 a2 a3 k
  unfold lockfastlaw08_OidSigns.f
  repeat' first
      | (with_reducible exact lockfastlaw08_awake.mono _)
      | (with_reducible exact LeO.refl _)
      | (with_reducible exact LeO.none _)
      | (with_reducible refine LeO.ite ?_ ?_)
      | (with_reducible refine LeO.bind ?_ (fun _ => ?_))
      | exact lockfastlaw08_awake.mono _
      | exact LeO.none _
      | refine LeO.ite ?_ ?_
      | refine LeO.bind ?_ (fun _ => ?_)
theorem lockfastlaw08_OidSigns.leavesG (A : Option Bool) (B : Option (List Int × Int)) (D : List Int → Option (Int × Int × Int × Bool)) (X1 X2 X4 : List Int → List Int) (r : Bool)
    (h : ((A).bind fun t272 => ((B).bind fun bt273 => (if bt273.2 = 0 then (if (bt273.1.length : Int) = 2 then (if 0 < (bt273.1.length : Int) then (if 1 < (bt273.1.length : Int) then ((D (X1 bt273.1)).bind fun bt282 => ((D (X2 bt273.1)).bind fun bt291 => (if 1 ≤ (bt273.1.length : Int) then ((D (bt273.1.take 1)).bind fun bt300 => ((D (X4 bt273.1)).bind fun bt310 => (if t272 = true then (if bt282.2.2.2 = true then (some false) else (if bt291.2.2.2 = true then (some false) else (if bt300.2.2.2 = true then (some false) else (some bt310.2.2.2)))) else (some false)))) else (none)))) else (none)) else (none)) else (some false)) else (if t272 = true then (some ((bt273.1.length : Int) == 0)) else (some false))))) = some r) :
    ((A).bind fun t272 => ((B).bind fun bt273 => (if bt273.2 = 0 then (if (bt273.1.length : Int) = 2 then (if 0 < (bt273.1.length : Int) then (if 1 < (bt273.1.length : Int) then ((D (X1 bt273.1)).bind fun bt282 => ((D (X2 bt273.1)).bind fun bt291 => (if 1 ≤ (bt273.1.length : Int) then ((D (bt273.1.take 1)).bind fun bt300 => ((D (X4 bt273.1)).bind fun bt310 => (if t272 = true then (if bt282.2.2.2 = true then (some false) else (if bt291.2.2.2 = true then (some false) else (if bt300.2.2.2 = true then (none) else (none)))) else (none)))) else (none)))) else (none)) else (none)) else (none)) else (if t272 = true then (none) else (none))))) = some r ∨
    ((A).bind fun t272 => ((B).bind fun bt273 => (if bt273.2 = 0 then (if (bt273.1.length : Int) = 2 then (if 0 < (bt273.1.length : Int) then (if 1 < (bt273.1.length : Int) then ((D (X1 bt273.1)).bind fun bt282 => ((D (X2 bt273.1)).bind fun bt291 => (if 1 ≤ (bt273.1.length : Int) then ((D (bt273.1.take 1)).bind fun bt300 => ((D (X4 bt273.1)).bind fun bt310 => (if t272 = true then (if bt282.2.2.2 = true then (none) else (if bt291.2.2.2 = true then (none) else (if bt300.2.2.2 = true then (some false) else (some bt310.2.2.2)))) else (none)))) else (none)))) else (none)) else (none)) else (none)) else (if t272 = true then (none) else (none))))) = some r ∨
    ((A).bind fun t272 => ((B).bind fun bt273 => (if bt273.2 = 0 then (if (bt273.1.length : Int) = 2 then (if 0 < (bt273.1.length : Int) then (if 1 < (bt273.1.length : Int) then ((D (X1 bt273.1)).bind fun bt282 => ((D (X2 bt273.1)).bind fun bt291 => (if 1 ≤ (bt273.1.length : Int) then ((D (bt273.1.take 1)).bind fun bt300 => ((D (X4 bt273.1)).bind fun bt310 => (if t272 = true then (if bt282.2.2.2 = true then (none) else (if bt291.2.2.2 = true then (none) else (if bt300.2.2.2 = true then (none) else (none)))) else (some false)))) else (none)))) else (none)) else (none)) else (some false)) else (if t272 = true then (some ((bt273.1.length : Int) == 0)) else (some false))))) = some r := by
  rcases A with _ | t
  · exact absurd h (by simp)
  rcases B with _ | b
  · exact absurd h (by simp)
  simp only [Option.bind_some] at h ⊢
  obtain ⟨l, e⟩ := b
  dsimp only at h ⊢
  by_cases c0 : e = 0
  · by_cases c1 : (l.length : Int) = 2
    · by_cases c2 : 0 < (l.length : Int)
      · by_cases c3 : 1 < (l.length : Int)
        · by_cases c4 : 1 ≤ (l.length : Int)
          · simp only [if_pos c0, if_pos c1, if_pos c2, if_pos c3, if_pos c4] at h ⊢
            generalize D (X1 l) = d at h ⊢
            generalize D (X2 l) = e2 at h ⊢
            generalize D (l.take 1) = f at h ⊢
            generalize D (X4 l) = g at h ⊢
            rcases d with _ | ⟨d1, d2, d3, d4⟩
            · exact absurd h (by simp)
            rcases e2 with _ | ⟨e1, e2, e3, e4⟩
            · exact absurd h (by simp)
            rcases f with _ | ⟨f1, f2, f3, f4⟩
            · exact absurd h (by simp)
            rcases g with _ | ⟨g1, g2, g3, g4⟩
            · exact absurd h (by simp)
            simp only [Option.bind_some] at h ⊢
            cases t <;> cases d4 <;> cases e4 <;> cases f4 <;> simp only [if_true, Bool.false_eq_true, if_false] at h ⊢ <;> first | exact Or.inl h | exact Or.inr (Or.inl h) | exact Or.inr (Or.inr h)
          · exact absurd (show (1 : Int) ≤ l.length by rw [c1]; decide) c4
        · exact absurd (show (1 : Int) < l.length by rw [c1]; decide) c3
      · exact absurd (show (0 : Int) < l.length by rw [c1]; decide) c2
    · rw [if_pos c0, if_neg c1] at h
      refine Or.inr (Or.inr ?_)
      rw [if_pos c0, if_neg c1]
      exact h
  · rw [if_neg c0] at h
    refine Or.inr (Or.inr ?_)
    rw [if_neg c0]
    exact h
theorem lockfastlaw08_OidSigns.leaves (k : Nat) (a0_0 : Int) (a0_1 : Int) (a0_2 : Int) (a1 : Int) (r : Bool) (h : lockfastlaw08_OidSigns.f k a0_0 a0_1 a0_2 a1 = some r) : lockfastlaw08_OidSigns_c1.f k a0_0 a0_1 a0_2 a1 = some r ∨ lockfastlaw08_OidSigns_c2.f k a0_0 a0_1 a0_2 a1 = some r ∨ lockfastlaw08_OidSigns_c3.f k a0_0 a0_1 a0_2 a1 = some r :=
  lockfastlaw08_OidSigns.leavesG (lockfastlaw08_awake.f k) (oid_Encode.f a0_0 a0_1 a0_2) oid_Decode.f (fun l => [Go.bits .xor .u64 (rd l 0) (shl .u64 1 ((32 + (Int.tmod a1 32)) % 256)), rd l 1]) (fun l => [rd l 0, 0]) (fun l => [rd l 0, rd l 1, Go.bits .xor .u64 (rd l 0) (shl .u64 1 ((32 + (Int.tmod a1 32)) % 256))]) r h
theorem lockfastlaw08_OidSigns.calls (k : Nat) (a0_0 : Int) (a0_1 : Int) (a0_2 : Int) (a1 : Int) (r : Bool) (w : World) (h : lockfastlaw08_OidSigns.f k a0_0 a0_1 a0_2 a1 = some r) :
    CallsG 6 #[.agg #[.int .i64 a0_0, .int .i64 a0_1, .int .u64 a0_2], .int .u8 a1] w fun e w' => e = .returned (.bool r) ∧ Below w.heap.size w w' := by
  rcases lockfastlaw08_OidSigns.leaves k a0_0 a0_1 a0_2 a1 r h with h | h | h
  · exact lockfastlaw08_OidSigns_c1.calls k a0_0 a0_1 a0_2 a1 r w h
  · exact lockfastlaw08_OidSigns_c2.calls k a0_0 a0_1 a0_2 a1 r w h
  · exact lockfastlaw08_OidSigns_c3.calls k a0_0 a0_1 a0_2 a1 r w h

end Go.Proofs.YtlbgepadkaehiaaDoor.Q
