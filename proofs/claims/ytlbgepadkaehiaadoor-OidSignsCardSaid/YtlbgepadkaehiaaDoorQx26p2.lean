-- Written by lfprint.py of this session's own, by way of the kit's print.py; with hand-made contracts.
import Derived.Test.YtlbgepadkaehiaaDoorQx0
import Derived.Test.YtlbgepadkaehiaaDoorQx4
import Derived.Test.YtlbgepadkaehiaaDoorQx10
import Derived.Test.YtlbgepadkaehiaaDoorQx16
import Derived.Test.YtlbgepadkaehiaaDoorQx23
import Derived.Test.YtlbgepadkaehiaaDoorQx26p1
namespace Go.Proofs.YtlbgepadkaehiaaDoor.Q
open Go.RowKit Go.Proofs.YtlbgepadkaehiaaDoorW.PrintWords Go.Proofs.YtlbgepadkaehiaaDoorW.PrintLast Go.Proofs.YtlbgepadkaehiaaDoorW.PrintMore
attribute [local go_sem] max2_int min2_int max_two min_two max_three min_three max_four min_four   -- for this text's walks alone
set_option linter.unusedVariables false
set_option linter.unusedSimpArgs false

/-! ### lockfastlaw08_OidSigns: its leaves 3, 4 -/

attribute [local go_sem] lockfastlaw08_OidSigns.shift
def lockfastlaw08_OidSigns_c2.f (k : Nat) (a0_0 : Int) (a0_1 : Int) (a0_2 : Int) (a1 : Int) : Option (Bool) := (lockfastlaw08_awake.f k).bind fun t272 => ((oid_Encode.f a0_0 a0_1 a0_2).bind fun bt273 => (if bt273.2 = 0 then (if (bt273.1.length : Int) = 2 then (if 0 < (bt273.1.length : Int) then (if 1 < (bt273.1.length : Int) then ((oid_Decode.f (([Go.bits .xor .u64 (rd bt273.1 0) (shl .u64 1 ((32 + (Int.tmod a1 32)) % 256)), rd bt273.1 1] : List Int))).bind fun bt282 => ((oid_Decode.f (([rd bt273.1 0, 0] : List Int))).bind fun bt291 => (if 1 ≤ (bt273.1.length : Int) then ((oid_Decode.f (bt273.1.take 1)).bind fun bt300 => ((oid_Decode.f (([rd bt273.1 0, rd bt273.1 1, Go.bits .xor .u64 (rd bt273.1 0) (shl .u64 1 ((32 + (Int.tmod a1 32)) % 256))] : List Int))).bind fun bt310 => (if t272 = true then (if bt282.2.2.2 = true then (none) else (if bt291.2.2.2 = true then (none) else (if bt300.2.2.2 = true then (some false) else (some bt310.2.2.2)))) else (none)))) else (none)))) else (none)) else (none)) else (none)) else (if t272 = true then (none) else (none))))
set_option maxHeartbeats 8000000 in
set_option maxRecDepth 100000 in
theorem lockfastlaw08_OidSigns_c2.calls (k : Nat) (a0_0 : Int) (a0_1 : Int) (a0_2 : Int) (a1 : Int) (r : Bool) (w : World) (h : lockfastlaw08_OidSigns_c2.f k a0_0 a0_1 a0_2 a1 = some r) :
    CallsG 6 #[.agg #[.int .i64 a0_0, .int .i64 a0_1, .int .u64 a0_2], .int .u8 a1] w fun e w' => e = .returned (.bool r) ∧ Below w.heap.size w w' := by
  intro HG0_
  have HG := Aside0.mk HG0_
  clear HG0_
  have hu26 := Tryd.underlying26
  have HB := Aside0.mk (Below.refl w.heap.size w)
  have H : ((lockfastlaw08_awake.f k).bind fun t272 => ((oid_Encode.f a0_0 a0_1 a0_2).bind fun bt273 => (if bt273.2 = 0 then (if (bt273.1.length : Int) = 2 then (if 0 < (bt273.1.length : Int) then (if 1 < (bt273.1.length : Int) then ((oid_Decode.f (([Go.bits .xor .u64 (rd bt273.1 0) (shl .u64 1 ((32 + (Int.tmod a1 32)) % 256)), rd bt273.1 1] : List Int))).bind fun bt282 => ((oid_Decode.f (([rd bt273.1 0, 0] : List Int))).bind fun bt291 => (if 1 ≤ (bt273.1.length : Int) then ((oid_Decode.f (bt273.1.take 1)).bind fun bt300 => ((oid_Decode.f (([rd bt273.1 0, rd bt273.1 1, Go.bits .xor .u64 (rd bt273.1 0) (shl .u64 1 ((32 + (Int.tmod a1 32)) % 256))] : List Int))).bind fun bt310 => (if t272 = true then (if bt282.2.2.2 = true then (none) else (if bt291.2.2.2 = true then (none) else (if bt300.2.2.2 = true then (some false) else (some bt310.2.2.2)))) else (none)))) else (none)))) else (none)) else (none)) else (none)) else (if t272 = true then (none) else (none))))) = some r := h
  clear h
  replace H := Option.bind_eq_some_iff.mp H
  obtain ⟨t272, A30, H⟩ := H
  replace H : ((oid_Encode.f a0_0 a0_1 a0_2).bind fun bt273 => (if bt273.2 = 0 then (if (bt273.1.length : Int) = 2 then (if 0 < (bt273.1.length : Int) then (if 1 < (bt273.1.length : Int) then ((oid_Decode.f (([Go.bits .xor .u64 (rd bt273.1 0) (shl .u64 1 ((32 + (Int.tmod a1 32)) % 256)), rd bt273.1 1] : List Int))).bind fun bt282 => ((oid_Decode.f (([rd bt273.1 0, 0] : List Int))).bind fun bt291 => (if 1 ≤ (bt273.1.length : Int) then ((oid_Decode.f (bt273.1.take 1)).bind fun bt300 => ((oid_Decode.f (([rd bt273.1 0, rd bt273.1 1, Go.bits .xor .u64 (rd bt273.1 0) (shl .u64 1 ((32 + (Int.tmod a1 32)) % 256))] : List Int))).bind fun bt310 => (if t272 = true then (if bt282.2.2.2 = true then (none) else (if bt291.2.2.2 = true then (none) else (if bt300.2.2.2 = true then (some false) else (some bt310.2.2.2)))) else (none)))) else (none)))) else (none)) else (none)) else (none)) else (if t272 = true then (none) else (none)))) = some r := H
  have A3 := Aside0.mk A30
  clear A30
  replace H := Option.bind_eq_some_iff.mp H
  obtain ⟨⟨t273, t276⟩, A40, H⟩ := H
  replace H : (if t276 = 0 then (if (t273.length : Int) = 2 then (if 0 < (t273.length : Int) then (if 1 < (t273.length : Int) then ((oid_Decode.f (([Go.bits .xor .u64 (rd t273 0) (shl .u64 1 ((32 + (Int.tmod a1 32)) % 256)), rd t273 1] : List Int))).bind fun bt282 => ((oid_Decode.f (([rd t273 0, 0] : List Int))).bind fun bt291 => (if 1 ≤ (t273.length : Int) then ((oid_Decode.f (t273.take 1)).bind fun bt300 => ((oid_Decode.f (([rd t273 0, rd t273 1, Go.bits .xor .u64 (rd t273 0) (shl .u64 1 ((32 + (Int.tmod a1 32)) % 256))] : List Int))).bind fun bt310 => (if t272 = true then (if bt282.2.2.2 = true then (none) else (if bt291.2.2.2 = true then (none) else (if bt300.2.2.2 = true then (some false) else (some bt310.2.2.2)))) else (none)))) else (none)))) else (none)) else (none)) else (none)) else (if t272 = true then (none) else (none))) = some r := H
  have A4 := Aside0.mk A40
  clear A40
  by_cases c5 : t276 = 0
  · rw [if_pos c5] at H
    have c5b0 : (t276 == 0) = true := beq_iff_eq.mpr c5
    have c5b1 : (t276 != 0) = false := bne_eq_false_iff_eq.mpr c5
    clear c5
    by_cases c6 : (t273.length : Int) = 2
    · rw [if_pos c6] at H
      have c6b0 : ((t273.length : Int) == 2) = true := beq_iff_eq.mpr c6
      have c6b1 : ((t273.length : Int) != 2) = false := bne_eq_false_iff_eq.mpr c6
      clear c6
      by_cases c7 : 0 < (t273.length : Int)
      · rw [if_pos c7] at H
        have c7b0 : decide (0 < (t273.length : Int)) = true := decide_eq_true c7
        have c7b1 : decide (0 < t273.length) = true := decide_eq_true (by omega)
        clear c7
        obtain ⟨ji8, hji8⟩ : ∃ j_ : Int, (shl .u64 1 ((32 + (Int.tmod a1 32)) % 256)) = j_ := ⟨_, rfl⟩
        replace H : (if 1 < (t273.length : Int) then ((oid_Decode.f (([Go.bits .xor .u64 (rd t273 0) (ji8), rd t273 1] : List Int))).bind fun bt282 => ((oid_Decode.f (([rd t273 0, 0] : List Int))).bind fun bt291 => (if 1 ≤ (t273.length : Int) then ((oid_Decode.f (t273.take 1)).bind fun bt300 => ((oid_Decode.f (([rd t273 0, rd t273 1, Go.bits .xor .u64 (rd t273 0) (ji8)] : List Int))).bind fun bt310 => (if t272 = true then (if bt282.2.2.2 = true then (none) else (if bt291.2.2.2 = true then (none) else (if bt300.2.2.2 = true then (some false) else (some bt310.2.2.2)))) else (none)))) else (none)))) else (none)) = some r := by first | (rw [hji8] at H; exact H) | (simp only [hji8] at H ⊢; exact H)
        (try rw [hji8] at A3)
        (try rw [hji8] at A4)
        have hji8_ : (IntKind.u64.wrap (1 * 2 ^ min ((32 + (Int.tmod a1 32)) % 256).toNat 64)) = ji8 := hji8
        have hji8z : ((32 + (Int.tmod a1 32)) % 256) ≤ 64 → (IntKind.u64.wrap (1 * 2 ^ ((32 + (Int.tmod a1 32)) % 256).toNat)) = ji8 := shl_small hji8
        have hji8u : (IntKind.u64.wrap (2 ^ min ((32 + (Int.tmod a1 32)) % 256).toNat 64)) = ji8 := by have h_ := hji8_; rw [Int.one_mul] at h_; exact h_
        have hji8v : ((32 + (Int.tmod a1 32)) % 256) ≤ 64 → (IntKind.u64.wrap (2 ^ ((32 + (Int.tmod a1 32)) % 256).toNat)) = ji8 := fun hle_ => by have h_ := hji8z hle_; rw [Int.one_mul] at h_; exact h_
        have hji8z2 := hji8z (lockfastlaw08_OidSigns.shb a1).2
        have hji8v2 := hji8v (lockfastlaw08_OidSigns.shb a1).2
        clear hji8z hji8v
        by_cases c9 : 1 < (t273.length : Int)
        · rw [if_pos c9] at H
          have c9b0 : decide (1 < (t273.length : Int)) = true := decide_eq_true c9
          have c9b1 : decide (1 < t273.length) = true := decide_eq_true (by omega)
          clear c9
          obtain ⟨y279, hy279⟩ : ∃ y_ : List Int, y_ = (([Go.bits .xor .u64 (rd t273 0) (ji8), rd t273 1] : List Int)) := ⟨_, rfl⟩
          replace H : ((oid_Decode.f y279).bind fun bt282 => ((oid_Decode.f (([rd t273 0, 0] : List Int))).bind fun bt291 => (if 1 ≤ (t273.length : Int) then ((oid_Decode.f (t273.take 1)).bind fun bt300 => ((oid_Decode.f (([rd t273 0, rd t273 1, Go.bits .xor .u64 (rd t273 0) (ji8)] : List Int))).bind fun bt310 => (if t272 = true then (if bt282.2.2.2 = true then (none) else (if bt291.2.2.2 = true then (none) else (if bt300.2.2.2 = true then (some false) else (some bt310.2.2.2)))) else (none)))) else (none)))) = some r := by first | (rw [hy279]; with_reducible exact H) | (have H2_ := (Option.bind_some _ _).symm.trans H; rw [hy279]; with_reducible exact H2_) | (have H2_ := (Option.bind_some _ _).symm.trans H; with_reducible exact H2_) | with_reducible exact H | (rw [hy279]; exact H) | exact H
          have Ny279 := Aside0.mk hy279
          clear hy279
          replace H := Option.bind_eq_some_iff.mp H
          obtain ⟨⟨t282, t283, t284, t285⟩, A100, H⟩ := H
          replace H : ((oid_Decode.f (([rd t273 0, 0] : List Int))).bind fun bt291 => (if 1 ≤ (t273.length : Int) then ((oid_Decode.f (t273.take 1)).bind fun bt300 => ((oid_Decode.f (([rd t273 0, rd t273 1, Go.bits .xor .u64 (rd t273 0) (ji8)] : List Int))).bind fun bt310 => (if t272 = true then (if t285 = true then (none) else (if bt291.2.2.2 = true then (none) else (if bt300.2.2.2 = true then (some false) else (some bt310.2.2.2)))) else (none)))) else (none))) = some r := H
          have A10 := Aside0.mk A100
          clear A100
          obtain ⟨y288, hy288⟩ : ∃ y_ : List Int, y_ = (([rd t273 0, 0] : List Int)) := ⟨_, rfl⟩
          replace H : ((oid_Decode.f y288).bind fun bt291 => (if 1 ≤ (t273.length : Int) then ((oid_Decode.f (t273.take 1)).bind fun bt300 => ((oid_Decode.f (([rd t273 0, rd t273 1, Go.bits .xor .u64 (rd t273 0) (ji8)] : List Int))).bind fun bt310 => (if t272 = true then (if t285 = true then (none) else (if bt291.2.2.2 = true then (none) else (if bt300.2.2.2 = true then (some false) else (some bt310.2.2.2)))) else (none)))) else (none))) = some r := by first | (rw [hy288]; with_reducible exact H) | (have H2_ := (Option.bind_some _ _).symm.trans H; rw [hy288]; with_reducible exact H2_) | (have H2_ := (Option.bind_some _ _).symm.trans H; with_reducible exact H2_) | with_reducible exact H | (rw [hy288]; exact H) | exact H
          have Ny288 := Aside0.mk hy288
          clear hy288
          replace H := Option.bind_eq_some_iff.mp H
          obtain ⟨⟨t291, t292, t293, t294⟩, A110, H⟩ := H
          replace H : (if 1 ≤ (t273.length : Int) then ((oid_Decode.f (t273.take 1)).bind fun bt300 => ((oid_Decode.f (([rd t273 0, rd t273 1, Go.bits .xor .u64 (rd t273 0) (ji8)] : List Int))).bind fun bt310 => (if t272 = true then (if t285 = true then (none) else (if t294 = true then (none) else (if bt300.2.2.2 = true then (some false) else (some bt310.2.2.2)))) else (none)))) else (none)) = some r := H
          have A11 := Aside0.mk A110
          clear A110
          by_cases c12 : 1 ≤ (t273.length : Int)
          · rw [if_pos c12] at H
            have c12b0 := eq_true c12
            have c12b1 : decide (1 ≤ (t273.length : Int)) = true := decide_eq_true c12
            clear c12
            obtain ⟨y296, hy296⟩ : ∃ y_ : List Int, y_ = (t273.take 1) := ⟨_, rfl⟩
            replace H : ((oid_Decode.f y296).bind fun bt300 => ((oid_Decode.f (([rd t273 0, rd t273 1, Go.bits .xor .u64 (rd t273 0) (ji8)] : List Int))).bind fun bt310 => (if t272 = true then (if t285 = true then (none) else (if t294 = true then (none) else (if bt300.2.2.2 = true then (some false) else (some bt310.2.2.2)))) else (none)))) = some r := by first | (rw [hy296]; with_reducible exact H) | (have H2_ := (Option.bind_some _ _).symm.trans H; rw [hy296]; with_reducible exact H2_) | (have H2_ := (Option.bind_some _ _).symm.trans H; with_reducible exact H2_) | with_reducible exact H | (rw [hy296]; exact H) | exact H
            have Ny296 := Aside0.mk hy296
            clear hy296
            replace H := Option.bind_eq_some_iff.mp H
            obtain ⟨⟨t300, t301, t302, t303⟩, A130, H⟩ := H
            replace H : ((oid_Decode.f (([rd t273 0, rd t273 1, Go.bits .xor .u64 (rd t273 0) (ji8)] : List Int))).bind fun bt310 => (if t272 = true then (if t285 = true then (none) else (if t294 = true then (none) else (if t303 = true then (some false) else (some bt310.2.2.2)))) else (none))) = some r := H
            have A13 := Aside0.mk A130
            clear A130
            obtain ⟨y307, hy307⟩ : ∃ y_ : List Int, y_ = (([rd t273 0, rd t273 1, Go.bits .xor .u64 (rd t273 0) (ji8)] : List Int)) := ⟨_, rfl⟩
            replace H : ((oid_Decode.f y307).bind fun bt310 => (if t272 = true then (if t285 = true then (none) else (if t294 = true then (none) else (if t303 = true then (some false) else (some bt310.2.2.2)))) else (none))) = some r := by first | (rw [hy307]; with_reducible exact H) | (have H2_ := (Option.bind_some _ _).symm.trans H; rw [hy307]; with_reducible exact H2_) | (have H2_ := (Option.bind_some _ _).symm.trans H; with_reducible exact H2_) | with_reducible exact H | (rw [hy307]; exact H) | exact H
            have Ny307 := Aside0.mk hy307
            clear hy307
            replace H := Option.bind_eq_some_iff.mp H
            obtain ⟨⟨t310, t311, t312, t313⟩, A140, H⟩ := H
            replace H : (if t272 = true then (if t285 = true then (none) else (if t294 = true then (none) else (if t303 = true then (some false) else (some t313)))) else (none)) = some r := H
            have A14 := Aside0.mk A140
            clear A140
            by_cases c15 : t272 = true
            · subst c15
              have H1 : (if t285 = true then (none) else (if t294 = true then (none) else (if t303 = true then (some false) else (some t313)))) = some r := by rw [if_pos rfl] at H; exact H
              clear H
              have H := H1
              clear H1
              by_cases c16 : t285 = true
              · subst c16
                have H1 : (none) = some r := by rw [if_pos rfl] at H; exact H
                clear H
                have H := H1
                clear H1
                exact absurd H (by simp)
              · replace c16 := Bool.eq_false_iff.mpr c16
                subst c16
                have H1 : (if t294 = true then (none) else (if t303 = true then (some false) else (some t313))) = some r := by rw [if_neg (show ¬ (false = true) by decide)] at H; exact H
                clear H
                have H := H1
                clear H1
                by_cases c56 : t294 = true
                · subst c56
                  have H1 : (none) = some r := by rw [if_pos rfl] at H; exact H
                  clear H
                  have H := H1
                  clear H1
                  exact absurd H (by simp)
                · replace c56 := Bool.eq_false_iff.mpr c56
                  subst c56
                  have H1 : (if t303 = true then (some false) else (some t313)) = some r := by rw [if_neg (show ¬ (false = true) by decide)] at H; exact H
                  clear H
                  have H := H1
                  clear H1
                  by_cases c96 : t303 = true
                  · subst c96
                    have H1 : (some false) = some r := by rw [if_pos rfl] at H; exact H
                    clear H
                    have H := H1
                    clear H1
                    obtain rfl := Option.some.inj H
                    go_enter Tryd.func6, Tryd.ntmps6
                    try go_wp2_with (first | ((with_reducible refine gate_dst (N := 2) rfl ?_); (try (refine gate_guard (by rfl) ?_; dsimp only)); refine box_event ?hg (N := 2) ?hd (cs := #[.int .i64 a0_0, .int .i64 a0_1, .int .u64 a0_2]) (t := 26) ?hr ?_; (case hd => rfl); (case hg => rfl); (case hr => first | (go_simp; done) | (go_simp; rfl)); intro gb271 hg w97 hbox hb; have n0_ := Aside0.mk (below_step (by repeat (first | (with_reducible first | exact HB.out | apply below_alloc | apply pw_below_drewN | apply below_drew1) | exact HB.out)) hb); have n1_ := Aside0.mk (hbox); have n2_ := Aside0.mk ((by rw [hg]; exact (below_size (by repeat (first | (with_reducible first | exact HB.out | apply below_alloc | apply pw_below_drewN | apply below_drew1) | exact HB.out))) : w.heap.size ≤ gb271)); have n3_ := Aside0.mk ((by rw [hg]; exact (below_size (by repeat (first | (with_reducible first | exact HB.out | apply below_alloc | apply pw_below_drewN | apply below_drew1) | exact HB.out))) : w.heap.size ≤ gb271)); clear HB; have HB := n0_; have BK271 := n1_; have GW271 := n2_; have GE271 := n3_; clear n0_ n1_ n2_ n3_; clear hb hbox hg) | ((with_reducible refine gate_callee (f := 8) rfl ?_); refine goesL_ (some 17) rfl rfl Tryd.func8 (by kernel_rfl) rfl #[] rfl (by (try simp only [List.map_toArray, List.map_cons, List.map_nil]); first | done | rfl | (simp only [List.length_drop, List.length_take]; rfl)) ?_; (with_reducible refine (lockfastlaw08_awake.calls k  true _ A3.out).mono ?_); rintro e w98 ⟨rfl, hb⟩; refine ⟨_, rfl, ?_⟩; have n0_ := Aside0.mk (blk_below (g := gb271) (o := .cells #[.int .i64 a0_0, .int .i64 a0_1, .int .u64 a0_2] 26 (0, 0)) (by (with_reducible repeat (first | refine blk_drewN ?_ _ | refine blk_drew ?_ | refine blk_alloc ?_ _)); exact BK271.out) hb); have n1_ := Aside0.mk (below_step (by repeat (first | (with_reducible first | exact HB.out | apply below_alloc | apply pw_below_drewN | apply below_drew1 | refine below_set ?_ GE271.out) | exact HB.out)) hb); clear BK271; clear HB; have BK271 := n0_; have HB := n1_; clear n0_ n1_; (try clear hb); (try clear hb2); (try clear hk); (try clear hi); have hcz99_0 : w98.cell? ⟨gb271, 0, none⟩ = some (.int .i64 a0_0) := (blk_cell BK271.out 0).trans rfl; have hcz99_1 : w98.cell? ⟨gb271, 1, none⟩ = some (.int .i64 a0_1) := (blk_cell BK271.out 1).trans rfl; have hcz99_2 : w98.cell? ⟨gb271, 2, none⟩ = some (.int .u64 a0_2) := (blk_cell BK271.out 2).trans rfl; have hfz99_0 := blk_frozen BK271.out 0; have hfz99_1 := blk_frozen BK271.out 1; have hfz99_2 := blk_frozen BK271.out 2) | ((with_reducible refine gate_callee (f := 10) rfl ?_); refine goesL_ (some 20) rfl rfl Tryd.func10 (by kernel_rfl) rfl #[.agg #[.int .i64 a0_0, .int .i64 a0_1, .int .u64 a0_2]] rfl (by (try simp only [List.map_toArray, List.map_cons, List.map_nil]); first | done | rfl | (simp only [List.length_drop, List.length_take]; rfl)) ?_; (with_reducible refine (oid_Encode.calls a0_0 a0_1 a0_2 t273 t276 _ A4.out).mono ?_); rintro e w100 ⟨v274, rfl, ho0, hb⟩; refine ⟨_, rfl, ?_⟩; have n0_ := Aside0.mk (Kd.R_lower ho0 (below_size (by repeat (first | (with_reducible first | exact HB.out | apply below_alloc | apply pw_below_drewN | apply below_drew1 | refine below_set ?_ GE271.out) | exact HB.out)))); have n1_ := Aside0.mk (blk_below (g := gb271) (o := .cells #[.int .i64 a0_0, .int .i64 a0_1, .int .u64 a0_2] 26 (0, 0)) (by (with_reducible repeat (first | refine blk_drewN ?_ _ | refine blk_drew ?_ | refine blk_alloc ?_ _)); exact BK271.out) hb); have n2_ := Aside0.mk (below_step (by repeat (first | (with_reducible first | exact HB.out | apply below_alloc | apply pw_below_drewN | apply below_drew1 | refine below_set ?_ GE271.out) | exact HB.out)) hb); clear BK271; clear HB; have HO275 := n0_; have BK271 := n1_; have HB := n2_; clear n0_ n1_ n2_; (try clear hb); (try clear hb2); (try clear hk); (try clear hi); (try clear ho0); obtain ⟨Ao101, co101, eo101⟩ := Kd.R_slice HO275.out; subst eo101; have p277 : 0 ≤ (0 : Int) := (by omega); have q277 : 0 < (t273.length : Int) := of_decide_eq_true (by first | (with_reducible assumption) | assumption); obtain ⟨ad277, e277, hx277_0⟩ := Kd.at_int (Kd.R_reads' HO275.out).2.2 0 p277 q277; cases e277; have qi277 : (0 < t273.length) = True := eq_true (by omega); (try rw [show ((0 : Int)).toNat = 0 from rfl] at hx277_0); (try rw [Addr.add_zero'] at hx277_0); replace p277 := eq_true p277; replace q277 := eq_true q277; have p278 : 0 ≤ (1 : Int) := (by omega); have q278 : 1 < (t273.length : Int) := of_decide_eq_true (by first | (with_reducible assumption) | assumption); obtain ⟨ad278, e278, hx278_0⟩ := Kd.at_int (Kd.R_reads' HO275.out).2.2 1 p278 q278; obtain rfl : ad277 = ad278 := (by injection e278); (try simp only [show (1 : Int).toNat = 1 from rfl, Nat.reduceMul, Nat.reduceEqDiff, Go.Addr.add, ↓reduceIte] at hx278_0); have qi278 : (1 < t273.length) = True := eq_true (by omega); (try rw [show ((1 : Int)).toNat = 1 from rfl] at hx278_0); replace p278 := eq_true p278; replace q278 := eq_true q278) | ((with_reducible refine gate_dst (N := 47) rfl ?_); (try (refine gate_guard (by rfl) ?_; dsimp only)); refine Kd.R_lit (Kd.int .u64) _ 22 ?hg (N := 47) ?hd (xs := ([Go.bits .xor .u64 (rd t273 0) (ji8), rd t273 1] : List Int)) (inner := [.int .u64 (Go.bits .xor .u64 (rd t273 0) (ji8)), .int .u64 (rd t273 1)]) (ok := fun _ => True) (okp := fun _ => True) ?hr ?hp (fun _ hk => hk) trivial (Below.refl _ _) (Nat.le_refl _) (by simp) ?_; (case hd => rfl); (case hg => rfl); (case hr => first | (go_simp; done) | (go_simp; rfl)); (case hp => exact (Reps.one (show Kd.M (Kd.int .u64) _ _ _ (Go.bits .xor .u64 (rd t273 0) (ji8)) [.int .u64 (Go.bits .xor .u64 (rd t273 0) (ji8))] from rfl) (Reps.one (show Kd.M (Kd.int .u64) _ _ _ (rd t273 1) [.int .u64 (rd t273 1)] from rfl) (Reps.none _ _)))); intro v280 w102 ho103 hb hg_ hnew_; clear hg_ hnew_; (first | rw [← Ny279.out] at ho103 | (simp only [Int.reduceToNat] at ho103; rw [← Ny279.out] at ho103)); have n0_ := Aside0.mk (Kd.R_elder' (by (with_reducible repeat (first | apply Kd.R_alloc | apply Kd.R_drewN | apply Kd.R_drew)); exact HO275.out) (Kd.R_base ho103) hb); have n1_ := Aside0.mk (Kd.R_lower (Kd.R_new' ho103 (Kd.R_lt (by (with_reducible repeat (first | apply Kd.R_alloc | apply Kd.R_drewN | apply Kd.R_drew)); exact HO275.out))) (below_size (by repeat (first | (with_reducible first | exact HB.out | apply below_alloc | apply pw_below_drewN | apply below_drew1 | refine below_set ?_ GE271.out) | exact HB.out)))); have n2_ := Aside0.mk (blk_below (g := gb271) (o := .cells #[.int .i64 a0_0, .int .i64 a0_1, .int .u64 a0_2] 26 (0, 0)) (by (with_reducible repeat (first | refine blk_drewN ?_ _ | refine blk_drew ?_ | refine blk_alloc ?_ _)); exact BK271.out) hb); have n3_ := Aside0.mk (below_step (by repeat (first | (with_reducible first | exact HB.out | apply below_alloc | apply pw_below_drewN | apply below_drew1 | refine below_set ?_ GE271.out) | exact HB.out)) hb); clear HO275; clear BK271; clear HB; have HO275 := n0_; have HO281 := n1_; have BK271 := n2_; have HB := n3_; clear n0_ n1_ n2_ n3_; clear hb ho103; obtain ⟨Ao104, co104, eo104⟩ := Kd.R_slice HO281.out; subst eo104) | ((with_reducible refine gate_callee (f := 17) rfl ?_); refine goesL_ (some 48) rfl rfl Tryd.func17 (by kernel_rfl) rfl #[.slice Ao104 y279.length co104] rfl (by (try simp only [List.map_toArray, List.map_cons, List.map_nil]); first | done | rfl | (simp only [List.length_drop, List.length_take]; rfl)) ?_; (with_reducible refine (oid_Decode.calls _ _ y279 t282 t283 t284 false _ ?side1 ?side2 A10.out).mono ?_); (case side1 => repeat (first | exact (Kd.R_reads' HO281.out).2.2 | (with_reducible refine Kd.C_alloc ?_ _) | (with_reducible refine Kd.C_drewN ?_ _) | (with_reducible refine Kd.C_drew ?_))); (case side2 => exact (Kd.R_reads' HO281.out).2.1); rintro e w105 ⟨rfl, hb⟩; refine ⟨_, rfl, ?_⟩; have n0_ := Aside0.mk (Kd.R_below (by (with_reducible repeat (first | apply Kd.R_alloc | apply Kd.R_drewN | apply Kd.R_drew)); exact HO275.out) hb); have n1_ := Aside0.mk (Kd.R_below (by (with_reducible repeat (first | apply Kd.R_alloc | apply Kd.R_drewN | apply Kd.R_drew)); exact HO281.out) hb); have n2_ := Aside0.mk (blk_below (g := gb271) (o := .cells #[.int .i64 a0_0, .int .i64 a0_1, .int .u64 a0_2] 26 (0, 0)) (by (with_reducible repeat (first | refine blk_drewN ?_ _ | refine blk_drew ?_ | refine blk_alloc ?_ _)); exact BK271.out) hb); have n3_ := Aside0.mk (below_step (by repeat (first | (with_reducible first | exact HB.out | apply below_alloc | apply pw_below_drewN | apply below_drew1 | refine below_set ?_ GE271.out) | exact HB.out)) hb); clear HO275; clear HO281; clear BK271; clear HB; have HO275 := n0_; have HO281 := n1_; have BK271 := n2_; have HB := n3_; clear n0_ n1_ n2_ n3_; (try clear hb); (try clear hb2); (try clear hk); (try clear hi)) | ((with_reducible refine gate_dst (N := 9) rfl ?_); (try (refine gate_guard (by rfl) ?_; dsimp only)); refine box_event ?hg (N := 9) ?hd (cs := #[.int .i64 0, .int .i64 0, .int .u64 0]) (t := 26) ?hr ?_; (case hd => rfl); (case hg => rfl); (case hr => first | (go_simp; done) | (go_simp; rfl)); intro gb286 hg w106 hbox hb; have n0_ := Aside0.mk (Kd.R_below (by (with_reducible repeat (first | apply Kd.R_alloc | apply Kd.R_drewN | apply Kd.R_drew)); exact HO275.out) hb); have n1_ := Aside0.mk (Kd.R_below (by (with_reducible repeat (first | apply Kd.R_alloc | apply Kd.R_drewN | apply Kd.R_drew)); exact HO281.out) hb); have n2_ := Aside0.mk (blk_below (g := gb271) (o := .cells #[.int .i64 a0_0, .int .i64 a0_1, .int .u64 a0_2] 26 (0, 0)) (by (with_reducible repeat (first | refine blk_drewN ?_ _ | refine blk_drew ?_ | refine blk_alloc ?_ _)); exact BK271.out) hb); have n3_ := Aside0.mk (below_step (by repeat (first | (with_reducible first | exact HB.out | apply below_alloc | apply pw_below_drewN | apply below_drew1 | refine below_set ?_ GE271.out) | exact HB.out)) hb); have n4_ := Aside0.mk (hbox); have n5_ := Aside0.mk ((by rw [hg]; exact (below_size (by repeat (first | (with_reducible first | exact HB.out | apply below_alloc | apply pw_below_drewN | apply below_drew1 | refine below_set ?_ GE271.out) | exact HB.out))) : w.heap.size ≤ gb286)); have n6_ := Aside0.mk ((by rw [hg]; exact (below_size (by repeat (first | (with_reducible first | exact HB.out | apply below_alloc | apply pw_below_drewN | apply below_drew1 | refine below_set ?_ GE271.out) | exact HB.out))) : w.heap.size ≤ gb286)); have n7_ := Aside0.mk ((by rw [hg]; exact Nat.ne_of_lt (blk_lt (g := gb271) (o := .cells #[.int .i64 a0_0, .int .i64 a0_1, .int .u64 a0_2] 26 (0, 0)) (by (with_reducible repeat (first | refine blk_drewN ?_ _ | refine blk_drew ?_ | refine blk_alloc ?_ _)); exact BK271.out)) : gb271 ≠ gb286)); have n8_ := Aside0.mk ((by rw [hg]; exact Nat.ne_of_gt (blk_lt (g := gb271) (o := .cells #[.int .i64 a0_0, .int .i64 a0_1, .int .u64 a0_2] 26 (0, 0)) (by (with_reducible repeat (first | refine blk_drewN ?_ _ | refine blk_drew ?_ | refine blk_alloc ?_ _)); exact BK271.out)) : gb286 ≠ gb271)); clear HO275; clear HO281; clear BK271; clear HB; have HO275 := n0_; have HO281 := n1_; have BK271 := n2_; have HB := n3_; have BK286 := n4_; have GW286 := n5_; have GE286 := n6_; have NB271_286 := n7_; have NB286_271 := n8_; clear n0_ n1_ n2_ n3_ n4_ n5_ n6_ n7_ n8_; clear hb hbox hg; have hnb107 := NB286_271.out; have hnc107 := NB271_286.out; have hcz108_0 : w106.cell? ⟨gb286, 0, none⟩ = some (.int .i64 0) := (blk_cell BK286.out 0).trans rfl; have hcz108_1 : w106.cell? ⟨gb286, 1, none⟩ = some (.int .i64 0) := (blk_cell BK286.out 1).trans rfl; have hcz108_2 : w106.cell? ⟨gb286, 2, none⟩ = some (.int .u64 0) := (blk_cell BK286.out 2).trans rfl; have hfz108_0 := blk_frozen BK286.out 0; have hfz108_1 := blk_frozen BK286.out 1; have hfz108_2 := blk_frozen BK286.out 2; have p287 : 0 ≤ (0 : Int) := (by omega); have q287 : 0 < (t273.length : Int) := of_decide_eq_true (by first | (with_reducible assumption) | assumption); obtain ⟨ad287, e287, hx287_0⟩ := Kd.at_int (Kd.R_reads' HO275.out).2.2 0 p287 q287; obtain rfl : ad277 = ad287 := (by injection e287); have qi287 : (0 < t273.length) = True := eq_true (by omega); (try rw [show ((0 : Int)).toNat = 0 from rfl] at hx287_0); (try rw [Addr.add_zero'] at hx287_0); have hn287_0 : ad277.block ≠ gb286 := Kd.own_blk (Kd.R_ne HO275.out BK286.out (by decide)); have hn287_1 : ad277.block ≠ gb286 := Kd.own_blk (Kd.R_ne HO275.out BK286.out (by decide)); have hn287_2 : ad277.block ≠ gb286 := Kd.own_blk (Kd.R_ne HO275.out BK286.out (by decide)); replace hx287_0 := (cell_far (p := ⟨gb286, 0, none⟩) (by first | (rw [add_block]; exact hn287_0) | (show (Addr.add _ _).block ≠ _; rw [add_block]; exact hn287_0) | exact hn287_0) (.int .i64 t282)).trans hx287_0; replace hx287_0 := (cell_far (p := ⟨gb286, 1, none⟩) (by first | (rw [add_block]; exact hn287_1) | (show (Addr.add _ _).block ≠ _; rw [add_block]; exact hn287_1) | exact hn287_1) (.int .i64 t283)).trans hx287_0; replace hx287_0 := (cell_far (p := ⟨gb286, 2, none⟩) (by first | (rw [add_block]; exact hn287_2) | (show (Addr.add _ _).block ≠ _; rw [add_block]; exact hn287_2) | exact hn287_2) (.int .u64 t284)).trans hx287_0; clear hn287_0; clear hn287_1; clear hn287_2; replace p287 := eq_true p287; replace q287 := eq_true q287) | ((with_reducible refine gate_dst (N := 55) rfl ?_); (try (refine gate_guard (by rfl) ?_; dsimp only)); refine Kd.R_lit (Kd.int .u64) _ 22 ?hg (N := 55) ?hd (xs := ([rd t273 0, 0] : List Int)) (inner := [.int .u64 (rd t273 0), .int .u64 0]) (ok := fun _ => True) (okp := fun _ => True) ?hr ?hp (fun _ hk => hk) trivial (Below.refl _ _) (Nat.le_refl _) (by simp) ?_; (case hd => rfl); (case hg => rfl); (case hr => first | (go_simp; done) | (go_simp; rfl)); (case hp => exact (Reps.one (show Kd.M (Kd.int .u64) _ _ _ (rd t273 0) [.int .u64 (rd t273 0)] from rfl) (Reps.one (show Kd.M (Kd.int .u64) _ _ _ 0 [.int .u64 0] from rfl) (Reps.none _ _)))); intro v289 w109 ho110 hb hg_ hnew_; clear hg_ hnew_; (first | rw [← Ny288.out] at ho110 | (simp only [Int.reduceToNat] at ho110; rw [← Ny288.out] at ho110)); have n0_ := Aside0.mk (Kd.R_elder' (by (with_reducible repeat (first | apply Kd.R_alloc | apply Kd.R_drewN | apply Kd.R_drew)); exact (Kd.R_mono (Kd.R_far (p := ⟨gb286, 2, none⟩) (Kd.R_far (p := ⟨gb286, 1, none⟩) (Kd.R_far (p := ⟨gb286, 0, none⟩) (Kd.R_types HO275.out BK286.out (by decide)) (fun _ hk => hk.2) (.int .i64 t282)) (fun _ hk => hk.2) (.int .i64 t283)) (fun _ hk => hk.2) (.int .u64 t284)) (fun _ h_ => h_.1))) (Kd.R_base ho110) hb); have n1_ := Aside0.mk (Kd.R_elder' (by (with_reducible repeat (first | apply Kd.R_alloc | apply Kd.R_drewN | apply Kd.R_drew)); exact (Kd.R_mono (Kd.R_far (p := ⟨gb286, 2, none⟩) (Kd.R_far (p := ⟨gb286, 1, none⟩) (Kd.R_far (p := ⟨gb286, 0, none⟩) (Kd.R_types HO281.out BK286.out (by decide)) (fun _ hk => hk.2) (.int .i64 t282)) (fun _ hk => hk.2) (.int .i64 t283)) (fun _ hk => hk.2) (.int .u64 t284)) (fun _ h_ => h_.1))) (Kd.R_base ho110) hb); have n2_ := Aside0.mk (Kd.R_lower (Kd.R_new' (Kd.R_new' ho110 (Kd.R_lt (by (with_reducible repeat (first | apply Kd.R_alloc | apply Kd.R_drewN | apply Kd.R_drew)); exact (Kd.R_mono (Kd.R_far (p := ⟨gb286, 2, none⟩) (Kd.R_far (p := ⟨gb286, 1, none⟩) (Kd.R_far (p := ⟨gb286, 0, none⟩) (Kd.R_types HO275.out BK286.out (by decide)) (fun _ hk => hk.2) (.int .i64 t282)) (fun _ hk => hk.2) (.int .i64 t283)) (fun _ hk => hk.2) (.int .u64 t284)) (fun _ h_ => h_.1))))) (Kd.R_lt (by (with_reducible repeat (first | apply Kd.R_alloc | apply Kd.R_drewN | apply Kd.R_drew)); exact (Kd.R_mono (Kd.R_far (p := ⟨gb286, 2, none⟩) (Kd.R_far (p := ⟨gb286, 1, none⟩) (Kd.R_far (p := ⟨gb286, 0, none⟩) (Kd.R_types HO281.out BK286.out (by decide)) (fun _ hk => hk.2) (.int .i64 t282)) (fun _ hk => hk.2) (.int .i64 t283)) (fun _ hk => hk.2) (.int .u64 t284)) (fun _ h_ => h_.1))))) (below_size (by repeat (first | (with_reducible first | exact HB.out | apply below_alloc | apply pw_below_drewN | apply below_drew1 | refine below_set ?_ GE271.out | refine below_set ?_ GE286.out) | exact HB.out)))); have n3_ := Aside0.mk (blk_below (g := gb271) (o := .cells #[.int .i64 a0_0, .int .i64 a0_1, .int .u64 a0_2] 26 (0, 0)) (by (with_reducible repeat (first | refine blk_drewN ?_ _ | refine blk_drew ?_ | refine blk_alloc ?_ _)); refine blk_far ?_ NB271_286.out _; (with_reducible repeat (first | refine blk_drewN ?_ _ | refine blk_drew ?_ | refine blk_alloc ?_ _)); refine blk_far ?_ NB271_286.out _; (with_reducible repeat (first | refine blk_drewN ?_ _ | refine blk_drew ?_ | refine blk_alloc ?_ _)); refine blk_far ?_ NB271_286.out _; (with_reducible repeat (first | refine blk_drewN ?_ _ | refine blk_drew ?_ | refine blk_alloc ?_ _)); exact BK271.out) hb); have n4_ := Aside0.mk (blk_below (g := gb286) (o := .cells #[.int .i64 t282, .int .i64 t283, .int .u64 t284] 26 (0, 0)) (by (with_reducible repeat (first | refine blk_drewN ?_ _ | refine blk_drew ?_ | refine blk_alloc ?_ _)); refine blk_put (cs := #[.int .i64 t282, .int .i64 t283, .int .u64 0]) ?_ 2 _ rfl; (with_reducible repeat (first | refine blk_drewN ?_ _ | refine blk_drew ?_ | refine blk_alloc ?_ _)); refine blk_put (cs := #[.int .i64 t282, .int .i64 0, .int .u64 0]) ?_ 1 _ rfl; (with_reducible repeat (first | refine blk_drewN ?_ _ | refine blk_drew ?_ | refine blk_alloc ?_ _)); refine blk_put (cs := #[.int .i64 0, .int .i64 0, .int .u64 0]) ?_ 0 _ rfl; (with_reducible repeat (first | refine blk_drewN ?_ _ | refine blk_drew ?_ | refine blk_alloc ?_ _)); exact BK286.out) hb); have n5_ := Aside0.mk (below_step (by repeat (first | (with_reducible first | exact HB.out | apply below_alloc | apply pw_below_drewN | apply below_drew1 | refine below_set ?_ GE271.out | refine below_set ?_ GE286.out) | exact HB.out)) hb); clear HO275; clear HO281; clear BK271; clear BK286; clear HB; have HO275 := n0_; have HO281 := n1_; have HO290 := n2_; have BK271 := n3_; have BK286 := n4_; have HB := n5_; clear n0_ n1_ n2_ n3_ n4_ n5_; clear hb ho110; obtain ⟨Ao111, co111, eo111⟩ := Kd.R_slice HO290.out; subst eo111) | ((with_reducible refine gate_callee (f := 17) rfl ?_); refine goesL_ (some 56) rfl rfl Tryd.func17 (by kernel_rfl) rfl #[.slice Ao111 y288.length co111] rfl (by (try simp only [List.map_toArray, List.map_cons, List.map_nil]); first | done | rfl | (simp only [List.length_drop, List.length_take]; rfl)) ?_; (with_reducible refine (oid_Decode.calls _ _ y288 t291 t292 t293 false _ ?side1 ?side2 A11.out).mono ?_); (case side1 => repeat (first | exact (Kd.R_reads' HO290.out).2.2 | (with_reducible refine Kd.C_alloc ?_ _) | (with_reducible refine Kd.C_drewN ?_ _) | (with_reducible refine Kd.C_drew ?_))); (case side2 => exact (Kd.R_reads' HO290.out).2.1); rintro e w112 ⟨rfl, hb⟩; refine ⟨_, rfl, ?_⟩; have n0_ := Aside0.mk (Kd.R_below (by (with_reducible repeat (first | apply Kd.R_alloc | apply Kd.R_drewN | apply Kd.R_drew)); exact HO275.out) hb); have n1_ := Aside0.mk (Kd.R_below (by (with_reducible repeat (first | apply Kd.R_alloc | apply Kd.R_drewN | apply Kd.R_drew)); exact HO281.out) hb); have n2_ := Aside0.mk (Kd.R_below (by (with_reducible repeat (first | apply Kd.R_alloc | apply Kd.R_drewN | apply Kd.R_drew)); exact HO290.out) hb); have n3_ := Aside0.mk (blk_below (g := gb271) (o := .cells #[.int .i64 a0_0, .int .i64 a0_1, .int .u64 a0_2] 26 (0, 0)) (by (with_reducible repeat (first | refine blk_drewN ?_ _ | refine blk_drew ?_ | refine blk_alloc ?_ _)); exact BK271.out) hb); have n4_ := Aside0.mk (blk_below (g := gb286) (o := .cells #[.int .i64 t282, .int .i64 t283, .int .u64 t284] 26 (0, 0)) (by (with_reducible repeat (first | refine blk_drewN ?_ _ | refine blk_drew ?_ | refine blk_alloc ?_ _)); exact BK286.out) hb); have n5_ := Aside0.mk (below_step (by repeat (first | (with_reducible first | exact HB.out | apply below_alloc | apply pw_below_drewN | apply below_drew1 | refine below_set ?_ GE271.out | refine below_set ?_ GE286.out) | exact HB.out)) hb); clear HO275; clear HO281; clear HO290; clear BK271; clear BK286; clear HB; have HO275 := n0_; have HO281 := n1_; have HO290 := n2_; have BK271 := n3_; have BK286 := n4_; have HB := n5_; clear n0_ n1_ n2_ n3_ n4_ n5_; (try clear hb); (try clear hb2); (try clear hk); (try clear hi)) | ((with_reducible refine gate_dst (N := 11) rfl ?_); (try (refine gate_guard (by rfl) ?_; dsimp only)); refine box_event ?hg (N := 11) ?hd (cs := #[.int .i64 0, .int .i64 0, .int .u64 0]) (t := 26) ?hr ?_; (case hd => rfl); (case hg => rfl); (case hr => first | (go_simp; done) | (go_simp; rfl)); intro gb295 hg w113 hbox hb; have n0_ := Aside0.mk (Kd.R_below (by (with_reducible repeat (first | apply Kd.R_alloc | apply Kd.R_drewN | apply Kd.R_drew)); exact HO275.out) hb); have n1_ := Aside0.mk (Kd.R_below (by (with_reducible repeat (first | apply Kd.R_alloc | apply Kd.R_drewN | apply Kd.R_drew)); exact HO281.out) hb); have n2_ := Aside0.mk (Kd.R_below (by (with_reducible repeat (first | apply Kd.R_alloc | apply Kd.R_drewN | apply Kd.R_drew)); exact HO290.out) hb); have n3_ := Aside0.mk (blk_below (g := gb271) (o := .cells #[.int .i64 a0_0, .int .i64 a0_1, .int .u64 a0_2] 26 (0, 0)) (by (with_reducible repeat (first | refine blk_drewN ?_ _ | refine blk_drew ?_ | refine blk_alloc ?_ _)); exact BK271.out) hb); have n4_ := Aside0.mk (blk_below (g := gb286) (o := .cells #[.int .i64 t282, .int .i64 t283, .int .u64 t284] 26 (0, 0)) (by (with_reducible repeat (first | refine blk_drewN ?_ _ | refine blk_drew ?_ | refine blk_alloc ?_ _)); exact BK286.out) hb); have n5_ := Aside0.mk (below_step (by repeat (first | (with_reducible first | exact HB.out | apply below_alloc | apply pw_below_drewN | apply below_drew1 | refine below_set ?_ GE271.out | refine below_set ?_ GE286.out) | exact HB.out)) hb); have n6_ := Aside0.mk (hbox); have n7_ := Aside0.mk ((by rw [hg]; exact (below_size (by repeat (first | (with_reducible first | exact HB.out | apply below_alloc | apply pw_below_drewN | apply below_drew1 | refine below_set ?_ GE271.out | refine below_set ?_ GE286.out) | exact HB.out))) : w.heap.size ≤ gb295)); have n8_ := Aside0.mk ((by rw [hg]; exact (below_size (by repeat (first | (with_reducible first | exact HB.out | apply below_alloc | apply pw_below_drewN | apply below_drew1 | refine below_set ?_ GE271.out | refine below_set ?_ GE286.out) | exact HB.out))) : w.heap.size ≤ gb295)); have n9_ := Aside0.mk ((by rw [hg]; exact Nat.ne_of_lt (blk_lt (g := gb271) (o := .cells #[.int .i64 a0_0, .int .i64 a0_1, .int .u64 a0_2] 26 (0, 0)) (by (with_reducible repeat (first | refine blk_drewN ?_ _ | refine blk_drew ?_ | refine blk_alloc ?_ _)); exact BK271.out)) : gb271 ≠ gb295)); have n10_ := Aside0.mk ((by rw [hg]; exact Nat.ne_of_gt (blk_lt (g := gb271) (o := .cells #[.int .i64 a0_0, .int .i64 a0_1, .int .u64 a0_2] 26 (0, 0)) (by (with_reducible repeat (first | refine blk_drewN ?_ _ | refine blk_drew ?_ | refine blk_alloc ?_ _)); exact BK271.out)) : gb295 ≠ gb271)); have n11_ := Aside0.mk ((by rw [hg]; exact Nat.ne_of_lt (blk_lt (g := gb286) (o := .cells #[.int .i64 t282, .int .i64 t283, .int .u64 t284] 26 (0, 0)) (by (with_reducible repeat (first | refine blk_drewN ?_ _ | refine blk_drew ?_ | refine blk_alloc ?_ _)); exact BK286.out)) : gb286 ≠ gb295)); have n12_ := Aside0.mk ((by rw [hg]; exact Nat.ne_of_gt (blk_lt (g := gb286) (o := .cells #[.int .i64 t282, .int .i64 t283, .int .u64 t284] 26 (0, 0)) (by (with_reducible repeat (first | refine blk_drewN ?_ _ | refine blk_drew ?_ | refine blk_alloc ?_ _)); exact BK286.out)) : gb295 ≠ gb286)); clear HO275; clear HO281; clear HO290; clear BK271; clear BK286; clear HB; have HO275 := n0_; have HO281 := n1_; have HO290 := n2_; have BK271 := n3_; have BK286 := n4_; have HB := n5_; have BK295 := n6_; have GW295 := n7_; have GE295 := n8_; have NB271_295 := n9_; have NB295_271 := n10_; have NB286_295 := n11_; have NB295_286 := n12_; clear n0_ n1_ n2_ n3_ n4_ n5_ n6_ n7_ n8_ n9_ n10_ n11_ n12_; clear hb hbox hg; have hnb114 := NB295_271.out; have hnc114 := NB271_295.out; have hnb115 := NB295_286.out; have hnc115 := NB286_295.out; have hcz116_0 : w113.cell? ⟨gb295, 0, none⟩ = some (.int .i64 0) := (blk_cell BK295.out 0).trans rfl; have hcz116_1 : w113.cell? ⟨gb295, 1, none⟩ = some (.int .i64 0) := (blk_cell BK295.out 1).trans rfl; have hcz116_2 : w113.cell? ⟨gb295, 2, none⟩ = some (.int .u64 0) := (blk_cell BK295.out 2).trans rfl; have hfz116_0 := blk_frozen BK295.out 0; have hfz116_1 := blk_frozen BK295.out 1; have hfz116_2 := blk_frozen BK295.out 2) | ((with_reducible refine gate_store (t := 26) (p := 11) rfl ?_); refine store_event (t := 26) (p := 11) (v := ?vo_w117) (w1 := (((w113.setCell ⟨gb295, 0, none⟩ (.int .i64 t291)).setCell ⟨gb295, 1, none⟩ (.int .i64 t292)).setCell ⟨gb295, 2, none⟩ (.int .u64 t293))) ?hg ?ho ?hn ?hr ?_; (case ho => rfl); (case hg => rfl); (case hn => rfl); (case hr => first | (go_simp; done) | (go_simp; rfl)); intro w117 hw; have n0_ : Aside0 (Kd.R (Kd.int .u64) 22 w117 w.heap.size (fun k_ => some k_ ≠ (.slice Ao104 y279.length co104 : Value).ownBlock ∧ some k_ ≠ (.slice Ao111 y288.length co111 : Value).ownBlock) (.slice (some ad277) t273.length co101) t273) := ⟨(by rw [hw]; exact (by (with_reducible repeat (first | apply Kd.R_alloc | apply Kd.R_drewN | apply Kd.R_drew)); exact Kd.R_mono (Kd.R_far (p := ⟨gb295, 2, none⟩) (Kd.R_far (p := ⟨gb295, 1, none⟩) (Kd.R_far (p := ⟨gb295, 0, none⟩) (Kd.R_types HO275.out BK295.out (by decide)) (fun _ hk => hk.2) (.int .i64 t291)) (fun _ hk => hk.2) (.int .i64 t292)) (fun _ hk => hk.2) (.int .u64 t293)) (fun _ hk => ⟨hk.1.1.2, hk.1.2⟩)))⟩; have n1_ : Aside0 (Kd.R (Kd.int .u64) 22 w117 w.heap.size (fun k_ => some k_ ≠ (.slice (some ad277) t273.length co101 : Value).ownBlock ∧ some k_ ≠ (.slice Ao111 y288.length co111 : Value).ownBlock) (.slice Ao104 y279.length co104) y279) := ⟨(by rw [hw]; exact (by (with_reducible repeat (first | apply Kd.R_alloc | apply Kd.R_drewN | apply Kd.R_drew)); exact Kd.R_mono (Kd.R_far (p := ⟨gb295, 2, none⟩) (Kd.R_far (p := ⟨gb295, 1, none⟩) (Kd.R_far (p := ⟨gb295, 0, none⟩) (Kd.R_types HO281.out BK295.out (by decide)) (fun _ hk => hk.2) (.int .i64 t291)) (fun _ hk => hk.2) (.int .i64 t292)) (fun _ hk => hk.2) (.int .u64 t293)) (fun _ hk => ⟨hk.1.1.2, hk.1.2⟩)))⟩; have n2_ : Aside0 (Kd.R (Kd.int .u64) 22 w117 w.heap.size (fun k_ => some k_ ≠ (.slice (some ad277) t273.length co101 : Value).ownBlock ∧ some k_ ≠ (.slice Ao104 y279.length co104 : Value).ownBlock) (.slice Ao111 y288.length co111) y288) := ⟨(by rw [hw]; exact (by (with_reducible repeat (first | apply Kd.R_alloc | apply Kd.R_drewN | apply Kd.R_drew)); exact Kd.R_mono (Kd.R_far (p := ⟨gb295, 2, none⟩) (Kd.R_far (p := ⟨gb295, 1, none⟩) (Kd.R_far (p := ⟨gb295, 0, none⟩) (Kd.R_types HO290.out BK295.out (by decide)) (fun _ hk => hk.2) (.int .i64 t291)) (fun _ hk => hk.2) (.int .i64 t292)) (fun _ hk => hk.2) (.int .u64 t293)) (fun _ hk => ⟨hk.1.1.2, hk.1.2⟩)))⟩; have n3_ : Aside0 (w117.heap[gb271]? = some (.cells #[.int .i64 a0_0, .int .i64 a0_1, .int .u64 a0_2] 26 (0, 0))) := ⟨(by rw [hw]; exact (by (with_reducible repeat (first | refine blk_drewN ?_ _ | refine blk_drew ?_ | refine blk_alloc ?_ _)); refine blk_far ?_ NB271_295.out _; (with_reducible repeat (first | refine blk_drewN ?_ _ | refine blk_drew ?_ | refine blk_alloc ?_ _)); refine blk_far ?_ NB271_295.out _; (with_reducible repeat (first | refine blk_drewN ?_ _ | refine blk_drew ?_ | refine blk_alloc ?_ _)); refine blk_far ?_ NB271_295.out _; (with_reducible repeat (first | refine blk_drewN ?_ _ | refine blk_drew ?_ | refine blk_alloc ?_ _)); exact BK271.out))⟩; have n4_ : Aside0 (w117.heap[gb286]? = some (.cells #[.int .i64 t282, .int .i64 t283, .int .u64 t284] 26 (0, 0))) := ⟨(by rw [hw]; exact (by (with_reducible repeat (first | refine blk_drewN ?_ _ | refine blk_drew ?_ | refine blk_alloc ?_ _)); refine blk_far ?_ NB286_295.out _; (with_reducible repeat (first | refine blk_drewN ?_ _ | refine blk_drew ?_ | refine blk_alloc ?_ _)); refine blk_far ?_ NB286_295.out _; (with_reducible repeat (first | refine blk_drewN ?_ _ | refine blk_drew ?_ | refine blk_alloc ?_ _)); refine blk_far ?_ NB286_295.out _; (with_reducible repeat (first | refine blk_drewN ?_ _ | refine blk_drew ?_ | refine blk_alloc ?_ _)); exact BK286.out))⟩; have n5_ : Aside0 (w117.heap[gb295]? = some (.cells #[.int .i64 t291, .int .i64 t292, .int .u64 t293] 26 (0, 0))) := ⟨(by rw [hw]; exact (by (with_reducible repeat (first | refine blk_drewN ?_ _ | refine blk_drew ?_ | refine blk_alloc ?_ _)); refine blk_put (cs := #[.int .i64 t291, .int .i64 t292, .int .u64 0]) ?_ 2 _ rfl; (with_reducible repeat (first | refine blk_drewN ?_ _ | refine blk_drew ?_ | refine blk_alloc ?_ _)); refine blk_put (cs := #[.int .i64 t291, .int .i64 0, .int .u64 0]) ?_ 1 _ rfl; (with_reducible repeat (first | refine blk_drewN ?_ _ | refine blk_drew ?_ | refine blk_alloc ?_ _)); refine blk_put (cs := #[.int .i64 0, .int .i64 0, .int .u64 0]) ?_ 0 _ rfl; (with_reducible repeat (first | refine blk_drewN ?_ _ | refine blk_drew ?_ | refine blk_alloc ?_ _)); exact BK295.out))⟩; have n6_ : Aside0 (Below w.heap.size w w117) := ⟨(by rw [hw]; exact (by repeat (first | (with_reducible first | exact HB.out | apply below_alloc | apply pw_below_drewN | apply below_drew1 | refine below_set ?_ GE271.out | refine below_set ?_ GE286.out | refine below_set ?_ GE295.out) | exact HB.out)))⟩; clear hw; clear HO275; clear HO281; clear HO290; clear BK271; clear BK286; clear BK295; clear HB; have HO275 := n0_; have HO281 := n1_; have HO290 := n2_; have BK271 := n3_; have BK286 := n4_; have BK295 := n5_; have HB := n6_; clear n0_ n1_ n2_ n3_ n4_ n5_ n6_; have q118 : (1 : Int) ≤ ((t273.length : Int) : Int) := of_decide_eq_true (by first | (with_reducible assumption) | assumption); obtain ⟨i0118, hi0118, _, hsz118, _⟩ := info_parts info22; have hroom118 : t273.length ≤ co101 := (Kd.R_reads' HO275.out).2.1; have hC118 : Kd.C (Kd.int .u64) _ (some ad277) t273.length t273 := (Kd.R_reads' HO275.out).2.2; have hcut118 := cut_to (P := Tryd.prog) 29 22 .i64 Tryd.underlying29 hi0118 (some ad277) t273.length co101 1 (by omega) q118 hroom118; have hr118 := Kd.C_take (m := 1) hC118 (by omega); have hy118 : y296.length = (1 : Int).toNat := (by rw [Ny296.out, List.length_take]; omega); rw [← Ny296.out] at hr118; rw [← hy118] at hcut118; have HR299 := Aside0.mk hr118; have HC299 := Aside0.mk (show y296.length ≤ co101 from by omega); clear hr118 hC118 hroom118 hi0118 hsz118; have KY118 := Aside0.mk hy118; clear hy118; have KL118 := Aside0.mk (show 1 ≤ t273.length from by omega); replace q118 := eq_true q118) | ((with_reducible refine gate_callee (f := 17) rfl ?_); refine goesL_ (some 62) rfl rfl Tryd.func17 (by kernel_rfl) rfl #[.slice (some ad277) y296.length co101] rfl (by (try simp only [List.map_toArray, List.map_cons, List.map_nil]); first | done | rfl | (simp only [List.length_drop, List.length_take]; rfl)) ?_; (with_reducible refine (oid_Decode.calls _ _ y296 t300 t301 t302 true _ ?side1 ?side2 A13.out).mono ?_); (case side1 => repeat (first | exact (by repeat (first | (with_reducible exact HR299.out) | (with_reducible refine Kd.C_alloc ?_ _) | (with_reducible refine Kd.C_drewN ?_ _) | (with_reducible refine Kd.C_drew ?_) | exact HR299.out)) | (with_reducible refine Kd.C_alloc ?_ _) | (with_reducible refine Kd.C_drewN ?_ _) | (with_reducible refine Kd.C_drew ?_))); (case side2 => exact HC299.out); rintro e w119 ⟨rfl, hb⟩; refine ⟨_, rfl, ?_⟩; have n0_ := Aside0.mk (Kd.R_below (by (with_reducible repeat (first | apply Kd.R_alloc | apply Kd.R_drewN | apply Kd.R_drew)); exact HO275.out) hb); have n1_ := Aside0.mk (Kd.R_below (by (with_reducible repeat (first | apply Kd.R_alloc | apply Kd.R_drewN | apply Kd.R_drew)); exact HO281.out) hb); have n2_ := Aside0.mk (Kd.R_below (by (with_reducible repeat (first | apply Kd.R_alloc | apply Kd.R_drewN | apply Kd.R_drew)); exact HO290.out) hb); have n3_ := Aside0.mk (blk_below (g := gb271) (o := .cells #[.int .i64 a0_0, .int .i64 a0_1, .int .u64 a0_2] 26 (0, 0)) (by (with_reducible repeat (first | refine blk_drewN ?_ _ | refine blk_drew ?_ | refine blk_alloc ?_ _)); exact BK271.out) hb); have n4_ := Aside0.mk (blk_below (g := gb286) (o := .cells #[.int .i64 t282, .int .i64 t283, .int .u64 t284] 26 (0, 0)) (by (with_reducible repeat (first | refine blk_drewN ?_ _ | refine blk_drew ?_ | refine blk_alloc ?_ _)); exact BK286.out) hb); have n5_ := Aside0.mk (blk_below (g := gb295) (o := .cells #[.int .i64 t291, .int .i64 t292, .int .u64 t293] 26 (0, 0)) (by (with_reducible repeat (first | refine blk_drewN ?_ _ | refine blk_drew ?_ | refine blk_alloc ?_ _)); exact BK295.out) hb); have n6_ := Aside0.mk (Kd.C_below (by repeat (first | (with_reducible exact HR299.out) | (with_reducible refine Kd.C_alloc ?_ _) | (with_reducible refine Kd.C_drewN ?_ _) | (with_reducible refine Kd.C_drew ?_) | exact HR299.out)) hb); have n7_ := Aside0.mk (below_step (by repeat (first | (with_reducible first | exact HB.out | apply below_alloc | apply pw_below_drewN | apply below_drew1 | refine below_set ?_ GE271.out | refine below_set ?_ GE286.out | refine below_set ?_ GE295.out) | exact HB.out)) hb); clear HO275; clear HO281; clear HO290; clear BK271; clear BK286; clear BK295; clear HR299; clear HB; have HO275 := n0_; have HO281 := n1_; have HO290 := n2_; have BK271 := n3_; have BK286 := n4_; have BK295 := n5_; have HR299 := n6_; have HB := n7_; clear n0_ n1_ n2_ n3_ n4_ n5_ n6_ n7_; (try clear hb); (try clear hb2); (try clear hk); (try clear hi)) | ((with_reducible refine gate_dst (N := 13) rfl ?_); (try (refine gate_guard (by rfl) ?_; dsimp only)); refine box_event ?hg (N := 13) ?hd (cs := #[.int .i64 0, .int .i64 0, .int .u64 0]) (t := 26) ?hr ?_; (case hd => rfl); (case hg => rfl); (case hr => first | (go_simp; done) | (go_simp; rfl)); intro gb304 hg w120 hbox hb; have n0_ := Aside0.mk (Kd.R_below (by (with_reducible repeat (first | apply Kd.R_alloc | apply Kd.R_drewN | apply Kd.R_drew)); exact HO275.out) hb); have n1_ := Aside0.mk (Kd.R_below (by (with_reducible repeat (first | apply Kd.R_alloc | apply Kd.R_drewN | apply Kd.R_drew)); exact HO281.out) hb); have n2_ := Aside0.mk (Kd.R_below (by (with_reducible repeat (first | apply Kd.R_alloc | apply Kd.R_drewN | apply Kd.R_drew)); exact HO290.out) hb); have n3_ := Aside0.mk (blk_below (g := gb271) (o := .cells #[.int .i64 a0_0, .int .i64 a0_1, .int .u64 a0_2] 26 (0, 0)) (by (with_reducible repeat (first | refine blk_drewN ?_ _ | refine blk_drew ?_ | refine blk_alloc ?_ _)); exact BK271.out) hb); have n4_ := Aside0.mk (blk_below (g := gb286) (o := .cells #[.int .i64 t282, .int .i64 t283, .int .u64 t284] 26 (0, 0)) (by (with_reducible repeat (first | refine blk_drewN ?_ _ | refine blk_drew ?_ | refine blk_alloc ?_ _)); exact BK286.out) hb); have n5_ := Aside0.mk (blk_below (g := gb295) (o := .cells #[.int .i64 t291, .int .i64 t292, .int .u64 t293] 26 (0, 0)) (by (with_reducible repeat (first | refine blk_drewN ?_ _ | refine blk_drew ?_ | refine blk_alloc ?_ _)); exact BK295.out) hb); have n6_ := Aside0.mk (Kd.C_below (by repeat (first | (with_reducible exact HR299.out) | (with_reducible refine Kd.C_alloc ?_ _) | (with_reducible refine Kd.C_drewN ?_ _) | (with_reducible refine Kd.C_drew ?_) | exact HR299.out)) hb); have n7_ := Aside0.mk (below_step (by repeat (first | (with_reducible first | exact HB.out | apply below_alloc | apply pw_below_drewN | apply below_drew1 | refine below_set ?_ GE271.out | refine below_set ?_ GE286.out | refine below_set ?_ GE295.out) | exact HB.out)) hb); have n8_ := Aside0.mk (hbox); have n9_ := Aside0.mk ((by rw [hg]; exact (below_size (by repeat (first | (with_reducible first | exact HB.out | apply below_alloc | apply pw_below_drewN | apply below_drew1 | refine below_set ?_ GE271.out | refine below_set ?_ GE286.out | refine below_set ?_ GE295.out) | exact HB.out))) : w.heap.size ≤ gb304)); have n10_ := Aside0.mk ((by rw [hg]; exact (below_size (by repeat (first | (with_reducible first | exact HB.out | apply below_alloc | apply pw_below_drewN | apply below_drew1 | refine below_set ?_ GE271.out | refine below_set ?_ GE286.out | refine below_set ?_ GE295.out) | exact HB.out))) : w.heap.size ≤ gb304)); have n11_ := Aside0.mk ((by rw [hg]; exact Nat.ne_of_lt (blk_lt (g := gb271) (o := .cells #[.int .i64 a0_0, .int .i64 a0_1, .int .u64 a0_2] 26 (0, 0)) (by (with_reducible repeat (first | refine blk_drewN ?_ _ | refine blk_drew ?_ | refine blk_alloc ?_ _)); exact BK271.out)) : gb271 ≠ gb304)); have n12_ := Aside0.mk ((by rw [hg]; exact Nat.ne_of_gt (blk_lt (g := gb271) (o := .cells #[.int .i64 a0_0, .int .i64 a0_1, .int .u64 a0_2] 26 (0, 0)) (by (with_reducible repeat (first | refine blk_drewN ?_ _ | refine blk_drew ?_ | refine blk_alloc ?_ _)); exact BK271.out)) : gb304 ≠ gb271)); have n13_ := Aside0.mk ((by rw [hg]; exact Nat.ne_of_lt (blk_lt (g := gb286) (o := .cells #[.int .i64 t282, .int .i64 t283, .int .u64 t284] 26 (0, 0)) (by (with_reducible repeat (first | refine blk_drewN ?_ _ | refine blk_drew ?_ | refine blk_alloc ?_ _)); exact BK286.out)) : gb286 ≠ gb304)); have n14_ := Aside0.mk ((by rw [hg]; exact Nat.ne_of_gt (blk_lt (g := gb286) (o := .cells #[.int .i64 t282, .int .i64 t283, .int .u64 t284] 26 (0, 0)) (by (with_reducible repeat (first | refine blk_drewN ?_ _ | refine blk_drew ?_ | refine blk_alloc ?_ _)); exact BK286.out)) : gb304 ≠ gb286)); have n15_ := Aside0.mk ((by rw [hg]; exact Nat.ne_of_lt (blk_lt (g := gb295) (o := .cells #[.int .i64 t291, .int .i64 t292, .int .u64 t293] 26 (0, 0)) (by (with_reducible repeat (first | refine blk_drewN ?_ _ | refine blk_drew ?_ | refine blk_alloc ?_ _)); exact BK295.out)) : gb295 ≠ gb304)); have n16_ := Aside0.mk ((by rw [hg]; exact Nat.ne_of_gt (blk_lt (g := gb295) (o := .cells #[.int .i64 t291, .int .i64 t292, .int .u64 t293] 26 (0, 0)) (by (with_reducible repeat (first | refine blk_drewN ?_ _ | refine blk_drew ?_ | refine blk_alloc ?_ _)); exact BK295.out)) : gb304 ≠ gb295)); clear HO275; clear HO281; clear HO290; clear BK271; clear BK286; clear BK295; clear HR299; clear HB; have HO275 := n0_; have HO281 := n1_; have HO290 := n2_; have BK271 := n3_; have BK286 := n4_; have BK295 := n5_; have HR299 := n6_; have HB := n7_; have BK304 := n8_; have GW304 := n9_; have GE304 := n10_; have NB271_304 := n11_; have NB304_271 := n12_; have NB286_304 := n13_; have NB304_286 := n14_; have NB295_304 := n15_; have NB304_295 := n16_; clear n0_ n1_ n2_ n3_ n4_ n5_ n6_ n7_ n8_ n9_ n10_ n11_ n12_ n13_ n14_ n15_ n16_; clear hb hbox hg; have hnb121 := NB304_271.out; have hnc121 := NB271_304.out; have hnb122 := NB304_286.out; have hnc122 := NB286_304.out; have hnb123 := NB304_295.out; have hnc123 := NB295_304.out; have hcz124_0 : w120.cell? ⟨gb304, 0, none⟩ = some (.int .i64 0) := (blk_cell BK304.out 0).trans rfl; have hcz124_1 : w120.cell? ⟨gb304, 1, none⟩ = some (.int .i64 0) := (blk_cell BK304.out 1).trans rfl; have hcz124_2 : w120.cell? ⟨gb304, 2, none⟩ = some (.int .u64 0) := (blk_cell BK304.out 2).trans rfl; have hfz124_0 := blk_frozen BK304.out 0; have hfz124_1 := blk_frozen BK304.out 1; have hfz124_2 := blk_frozen BK304.out 2))
                    have n0_ : Aside0 (Kd.R (Kd.int .u64) 22 (((w120.setCell ⟨gb304, 0, none⟩ (.int .i64 t300)).setCell ⟨gb304, 1, none⟩ (.int .i64 t301)).setCell ⟨gb304, 2, none⟩ (.int .u64 t302)) w.heap.size (fun k_ => some k_ ≠ (.slice Ao104 y279.length co104 : Value).ownBlock ∧ some k_ ≠ (.slice Ao111 y288.length co111 : Value).ownBlock) (.slice (some ad277) t273.length co101) t273) := ⟨by (with_reducible repeat (first | apply Kd.R_alloc | apply Kd.R_drewN | apply Kd.R_drew)); exact Kd.R_mono (Kd.R_far (p := ⟨gb304, 2, none⟩) (Kd.R_far (p := ⟨gb304, 1, none⟩) (Kd.R_far (p := ⟨gb304, 0, none⟩) (Kd.R_types HO275.out BK304.out (by decide)) (fun _ hk => hk.2) (.int .i64 t300)) (fun _ hk => hk.2) (.int .i64 t301)) (fun _ hk => hk.2) (.int .u64 t302)) (fun _ hk => ⟨hk.1.1, hk.1.2⟩)⟩
                    have n1_ : Aside0 (Kd.R (Kd.int .u64) 22 (((w120.setCell ⟨gb304, 0, none⟩ (.int .i64 t300)).setCell ⟨gb304, 1, none⟩ (.int .i64 t301)).setCell ⟨gb304, 2, none⟩ (.int .u64 t302)) w.heap.size (fun k_ => some k_ ≠ (.slice (some ad277) t273.length co101 : Value).ownBlock ∧ some k_ ≠ (.slice Ao111 y288.length co111 : Value).ownBlock) (.slice Ao104 y279.length co104) y279) := ⟨by (with_reducible repeat (first | apply Kd.R_alloc | apply Kd.R_drewN | apply Kd.R_drew)); exact Kd.R_mono (Kd.R_far (p := ⟨gb304, 2, none⟩) (Kd.R_far (p := ⟨gb304, 1, none⟩) (Kd.R_far (p := ⟨gb304, 0, none⟩) (Kd.R_types HO281.out BK304.out (by decide)) (fun _ hk => hk.2) (.int .i64 t300)) (fun _ hk => hk.2) (.int .i64 t301)) (fun _ hk => hk.2) (.int .u64 t302)) (fun _ hk => ⟨hk.1.1, hk.1.2⟩)⟩
                    have n2_ : Aside0 (Kd.R (Kd.int .u64) 22 (((w120.setCell ⟨gb304, 0, none⟩ (.int .i64 t300)).setCell ⟨gb304, 1, none⟩ (.int .i64 t301)).setCell ⟨gb304, 2, none⟩ (.int .u64 t302)) w.heap.size (fun k_ => some k_ ≠ (.slice (some ad277) t273.length co101 : Value).ownBlock ∧ some k_ ≠ (.slice Ao104 y279.length co104 : Value).ownBlock) (.slice Ao111 y288.length co111) y288) := ⟨by (with_reducible repeat (first | apply Kd.R_alloc | apply Kd.R_drewN | apply Kd.R_drew)); exact Kd.R_mono (Kd.R_far (p := ⟨gb304, 2, none⟩) (Kd.R_far (p := ⟨gb304, 1, none⟩) (Kd.R_far (p := ⟨gb304, 0, none⟩) (Kd.R_types HO290.out BK304.out (by decide)) (fun _ hk => hk.2) (.int .i64 t300)) (fun _ hk => hk.2) (.int .i64 t301)) (fun _ hk => hk.2) (.int .u64 t302)) (fun _ hk => ⟨hk.1.1, hk.1.2⟩)⟩
                    have n3_ : Aside0 ((((w120.setCell ⟨gb304, 0, none⟩ (.int .i64 t300)).setCell ⟨gb304, 1, none⟩ (.int .i64 t301)).setCell ⟨gb304, 2, none⟩ (.int .u64 t302)).heap[gb271]? = some (.cells #[.int .i64 a0_0, .int .i64 a0_1, .int .u64 a0_2] 26 (0, 0))) := ⟨by (with_reducible repeat (first | refine blk_drewN ?_ _ | refine blk_drew ?_ | refine blk_alloc ?_ _)); refine blk_far ?_ NB271_304.out _; (with_reducible repeat (first | refine blk_drewN ?_ _ | refine blk_drew ?_ | refine blk_alloc ?_ _)); refine blk_far ?_ NB271_304.out _; (with_reducible repeat (first | refine blk_drewN ?_ _ | refine blk_drew ?_ | refine blk_alloc ?_ _)); refine blk_far ?_ NB271_304.out _; (with_reducible repeat (first | refine blk_drewN ?_ _ | refine blk_drew ?_ | refine blk_alloc ?_ _)); exact BK271.out⟩
                    have n4_ : Aside0 ((((w120.setCell ⟨gb304, 0, none⟩ (.int .i64 t300)).setCell ⟨gb304, 1, none⟩ (.int .i64 t301)).setCell ⟨gb304, 2, none⟩ (.int .u64 t302)).heap[gb286]? = some (.cells #[.int .i64 t282, .int .i64 t283, .int .u64 t284] 26 (0, 0))) := ⟨by (with_reducible repeat (first | refine blk_drewN ?_ _ | refine blk_drew ?_ | refine blk_alloc ?_ _)); refine blk_far ?_ NB286_304.out _; (with_reducible repeat (first | refine blk_drewN ?_ _ | refine blk_drew ?_ | refine blk_alloc ?_ _)); refine blk_far ?_ NB286_304.out _; (with_reducible repeat (first | refine blk_drewN ?_ _ | refine blk_drew ?_ | refine blk_alloc ?_ _)); refine blk_far ?_ NB286_304.out _; (with_reducible repeat (first | refine blk_drewN ?_ _ | refine blk_drew ?_ | refine blk_alloc ?_ _)); exact BK286.out⟩
                    have n5_ : Aside0 ((((w120.setCell ⟨gb304, 0, none⟩ (.int .i64 t300)).setCell ⟨gb304, 1, none⟩ (.int .i64 t301)).setCell ⟨gb304, 2, none⟩ (.int .u64 t302)).heap[gb295]? = some (.cells #[.int .i64 t291, .int .i64 t292, .int .u64 t293] 26 (0, 0))) := ⟨by (with_reducible repeat (first | refine blk_drewN ?_ _ | refine blk_drew ?_ | refine blk_alloc ?_ _)); refine blk_far ?_ NB295_304.out _; (with_reducible repeat (first | refine blk_drewN ?_ _ | refine blk_drew ?_ | refine blk_alloc ?_ _)); refine blk_far ?_ NB295_304.out _; (with_reducible repeat (first | refine blk_drewN ?_ _ | refine blk_drew ?_ | refine blk_alloc ?_ _)); refine blk_far ?_ NB295_304.out _; (with_reducible repeat (first | refine blk_drewN ?_ _ | refine blk_drew ?_ | refine blk_alloc ?_ _)); exact BK295.out⟩
                    have n6_ : Aside0 ((((w120.setCell ⟨gb304, 0, none⟩ (.int .i64 t300)).setCell ⟨gb304, 1, none⟩ (.int .i64 t301)).setCell ⟨gb304, 2, none⟩ (.int .u64 t302)).heap[gb304]? = some (.cells #[.int .i64 t300, .int .i64 t301, .int .u64 t302] 26 (0, 0))) := ⟨by (with_reducible repeat (first | refine blk_drewN ?_ _ | refine blk_drew ?_ | refine blk_alloc ?_ _)); refine blk_put (cs := #[.int .i64 t300, .int .i64 t301, .int .u64 0]) ?_ 2 _ rfl; (with_reducible repeat (first | refine blk_drewN ?_ _ | refine blk_drew ?_ | refine blk_alloc ?_ _)); refine blk_put (cs := #[.int .i64 t300, .int .i64 0, .int .u64 0]) ?_ 1 _ rfl; (with_reducible repeat (first | refine blk_drewN ?_ _ | refine blk_drew ?_ | refine blk_alloc ?_ _)); refine blk_put (cs := #[.int .i64 0, .int .i64 0, .int .u64 0]) ?_ 0 _ rfl; (with_reducible repeat (first | refine blk_drewN ?_ _ | refine blk_drew ?_ | refine blk_alloc ?_ _)); exact BK304.out⟩
                    have n7_ : Aside0 (Below w.heap.size w (((w120.setCell ⟨gb304, 0, none⟩ (.int .i64 t300)).setCell ⟨gb304, 1, none⟩ (.int .i64 t301)).setCell ⟨gb304, 2, none⟩ (.int .u64 t302))) := ⟨by repeat (first | (with_reducible first | exact HB.out | apply below_alloc | apply pw_below_drewN | apply below_drew1 | refine below_set ?_ GE271.out | refine below_set ?_ GE286.out | refine below_set ?_ GE295.out | refine below_set ?_ GE304.out) | exact HB.out)⟩
                    (try clear HO275)
                    (try clear HO281)
                    (try clear HO290)
                    (try clear BK271)
                    (try clear BK286)
                    (try clear BK295)
                    (try clear BK304)
                    (try clear HB)
                    generalize (((w120.setCell ⟨gb304, 0, none⟩ (.int .i64 t300)).setCell ⟨gb304, 1, none⟩ (.int .i64 t301)).setCell ⟨gb304, 2, none⟩ (.int .u64 t302)) = w125 at n0_ n1_ n2_ n3_ n4_ n5_ n6_ n7_ ⊢
                    have HO275 := n0_
                    have HO281 := n1_
                    have HO290 := n2_
                    have BK271 := n3_
                    have BK286 := n4_
                    have BK295 := n5_
                    have BK304 := n6_
                    have HB := n7_
                    clear n0_ n1_ n2_ n3_ n4_ n5_ n6_ n7_
                    have n0_ := Aside0.mk (Kd.R_drew HO275.out)
                    have n1_ := Aside0.mk (Kd.R_drew HO281.out)
                    have n2_ := Aside0.mk (Kd.R_drew HO290.out)
                    have n3_ := Aside0.mk (blk_drew BK271.out)
                    have n4_ := Aside0.mk (blk_drew BK286.out)
                    have n5_ := Aside0.mk (blk_drew BK295.out)
                    have n6_ := Aside0.mk (blk_drew BK304.out)
                    have n7_ := Aside0.mk (below_drew1 HB.out)
                    clear HO275
                    clear HO281
                    clear HO290
                    clear BK271
                    clear BK286
                    clear BK295
                    clear BK304
                    clear HB
                    have HO275 := n0_
                    have HO281 := n1_
                    have HO290 := n2_
                    have BK271 := n3_
                    have BK286 := n4_
                    have BK295 := n5_
                    have BK304 := n6_
                    have HB := n7_
                    clear n0_ n1_ n2_ n3_ n4_ n5_ n6_ n7_
                    have p305 : 0 ≤ (0 : Int) := (by omega)
                    have q305 : 0 < (t273.length : Int) := of_decide_eq_true (by first | (with_reducible assumption) | assumption)
                    obtain ⟨ad305, e305, hx305_0⟩ := Kd.at_int (Kd.R_reads' HO275.out).2.2 0 p305 q305
                    obtain rfl : ad277 = ad305 := (by injection e305)
                    have qi305 : (0 < t273.length) = True := eq_true (by omega)
                    (try rw [show ((0 : Int)).toNat = 0 from rfl] at hx305_0)
                    (try rw [Addr.add_zero'] at hx305_0)
                    replace p305 := eq_true p305
                    replace q305 := eq_true q305
                    have p306 : 0 ≤ (1 : Int) := (by omega)
                    have q306 : 1 < (t273.length : Int) := of_decide_eq_true (by first | (with_reducible assumption) | assumption)
                    obtain ⟨ad306, e306, hx306_0⟩ := Kd.at_int (Kd.R_reads' HO275.out).2.2 1 p306 q306
                    obtain rfl : ad277 = ad306 := (by injection e306)
                    (try simp only [show (1 : Int).toNat = 1 from rfl, Nat.reduceMul, Nat.reduceEqDiff, Go.Addr.add, ↓reduceIte] at hx306_0)
                    have qi306 : (1 < t273.length) = True := eq_true (by omega)
                    (try rw [show ((1 : Int)).toNat = 1 from rfl] at hx306_0)
                    replace p306 := eq_true p306
                    replace q306 := eq_true q306
                    refine start_ (n := 15) (S := fun w' => w'.cell? ad277 = some (.int .u64 (rd t273 0)) ∧ w'.cell? ⟨ad277.block, ad277.off + 1, none⟩ = some (.int .u64 (rd t273 1))) (ds := []) #[false, false, false, false, false, false, false, false, false, false, false, false, false, false, false] (by kernel_rfl) rfl rfl ⟨hx305_0, hx306_0⟩ (fun hHeld => ?_); refine with_tabW lockfastlaw08_OidSigns.tab11 lockfastlaw08_OidSigns.bits11 (fun HT_ HW_ => ?_)
                    generalize w125.drew = w126 at HO275 HO281 HO290 BK271 BK286 BK295 BK304 HB hx305_0 hx306_0 hHeld ⊢
                    refine pure_ (i := 0) (N := some 66) (v := ?_) (a' := ?_) #[true, false, false, false, false, false, false, false, false, false, false, false, false, false, false] rfl rfl (any_of HT_.out (by kernel_rfl)) (fun _ _ _ h => h) (Or.inl ⟨by rfl, ?_⟩) ?_ ?_
                    rotate_left
                    · intro w'
                      go_simp
                      with_reducible rfl
                    rotate_left
                    · simp only [Act.put, List.setIfInBounds_toArray, List.set_cons_zero, List.set_cons_succ, i64_w, i32_w]
                      rfl
                    refine pure_ (i := 1) (N := some 67) (v := ?_) (a' := ?_) #[true, true, false, false, false, false, false, false, false, false, false, false, false, false, false] rfl rfl (any_of HT_.out (by kernel_rfl)) (fun _ _ _ h => h) (Or.inl ⟨by rfl, ?_⟩) ?_ ?_
                    rotate_left
                    · intro w'
                      go_simp
                      with_reducible rfl
                    rotate_left
                    · simp only [Act.put, List.setIfInBounds_toArray, List.set_cons_zero, List.set_cons_succ, i64_w, i32_w]
                      rfl
                    refine pure_ (i := 3) (N := some 69) (v := ?_) (a' := ?_) #[true, true, false, true, false, false, false, false, false, false, false, false, false, false, false] rfl rfl (any_of HT_.out (by kernel_rfl)) (fun _ _ _ h => h) (Or.inl ⟨by rfl, ?_⟩) ?_ ?_
                    rotate_left
                    · intro w'
                      go_simp
                      with_reducible rfl
                    rotate_left
                    · simp only [Act.put, List.setIfInBounds_toArray, List.set_cons_zero, List.set_cons_succ, i64_w, i32_w]
                      rfl
                    refine pure_ (i := 4) (N := some 70) (v := ?_) (a' := ?_) #[true, true, false, true, true, false, false, false, false, false, false, false, false, false, false] rfl rfl (any_of HT_.out (by kernel_rfl)) (fun _ _ _ h => h) (Or.inl ⟨by rfl, ?_⟩) ?_ ?_
                    rotate_left
                    · intro w'
                      go_simp
                      with_reducible rfl
                    rotate_left
                    · simp only [Act.put, List.setIfInBounds_toArray, List.set_cons_zero, List.set_cons_succ, i64_w, i32_w]
                      rfl
                    refine pure_ (i := 6) (N := some 72) (v := ?_) (a' := ?_) #[true, true, false, true, true, false, true, false, false, false, false, false, false, false, false] rfl rfl (any_of HT_.out (by kernel_rfl)) (fun _ _ _ h => h) (Or.inl ⟨by rfl, ?_⟩) ?_ ?_
                    rotate_left
                    · intro w'
                      go_simp
                      with_reducible rfl
                    rotate_left
                    · simp only [Act.put, List.setIfInBounds_toArray, List.set_cons_zero, List.set_cons_succ, i64_w, i32_w]
                      rfl
                    refine take_ (i := 2) (N := some 68) (v := ?_) (a' := ?_) #[true, true, true, true, true, false, true, false, false, false, false, false, false, false, false] rfl rfl (take_ofW HT_.out HW_.out (by kernel_rfl)) (fun _ _ _ h => h) (Or.inl ⟨by rfl, ?_⟩) hHeld ?_ ?_
                    rotate_left
                    · rintro w' ⟨s0, s1⟩
                      go_simp
                      with_reducible rfl
                    rotate_left
                    · simp only [Act.put, List.setIfInBounds_toArray, List.set_cons_zero, List.set_cons_succ, i64_w, i32_w]
                      rfl
                    refine take_ (i := 5) (N := some 71) (v := ?_) (a' := ?_) #[true, true, true, true, true, true, true, false, false, false, false, false, false, false, false] rfl rfl (take_ofW HT_.out HW_.out (by kernel_rfl)) (fun _ _ _ h => h) (Or.inl ⟨by rfl, ?_⟩) hHeld ?_ ?_
                    rotate_left
                    · rintro w' ⟨s0, s1⟩
                      go_simp
                      with_reducible rfl
                    rotate_left
                    · simp only [Act.put, List.setIfInBounds_toArray, List.set_cons_zero, List.set_cons_succ, i64_w, i32_w]
                      rfl
                    refine join_ (σ := Value × Nat) 2 #[true, true, true, true, true, true, true, true, true, true, true, true, true, false, false] (fun s_ => [(73, s_.1), (74, .tuple #[.agg #[.int .i64 t310, .int .i64 t311, .int .u64 t312], .bool t313]), (15, .pointer (some ⟨s_.2, 0, none⟩)), (65, .tuple #[.agg #[.int .i64 t310, .int .i64 t311, .int .u64 t312], .bool t313]), (75, .agg #[.int .i64 t310, .int .i64 t311, .int .u64 t312]), (76, .bool t313)]) (fun s_ w' => (w'.cell? ad277 = some (.int .u64 (rd t273 0)) ∧ w'.cell? ⟨ad277.block, ad277.off + 1, none⟩ = some (.int .u64 (rd t273 1))) ∧ (Kd.R (Kd.int .u64) 22 w' w.heap.size (fun k_ => some k_ ≠ (.slice Ao104 y279.length co104 : Value).ownBlock ∧ some k_ ≠ (.slice Ao111 y288.length co111 : Value).ownBlock ∧ some k_ ≠ (s_.1 : Value).ownBlock) (.slice (some ad277) t273.length co101) t273) ∧ (Kd.R (Kd.int .u64) 22 w' w.heap.size (fun k_ => some k_ ≠ (.slice (some ad277) t273.length co101 : Value).ownBlock ∧ some k_ ≠ (.slice Ao111 y288.length co111 : Value).ownBlock ∧ some k_ ≠ (s_.1 : Value).ownBlock) (.slice Ao104 y279.length co104) y279) ∧ (Kd.R (Kd.int .u64) 22 w' w.heap.size (fun k_ => some k_ ≠ (.slice (some ad277) t273.length co101 : Value).ownBlock ∧ some k_ ≠ (.slice Ao104 y279.length co104 : Value).ownBlock ∧ some k_ ≠ (s_.1 : Value).ownBlock) (.slice Ao111 y288.length co111) y288) ∧ (Kd.R (Kd.int .u64) 22 w' w.heap.size (fun k_ => some k_ ≠ (.slice (some ad277) t273.length co101 : Value).ownBlock ∧ some k_ ≠ (.slice Ao104 y279.length co104 : Value).ownBlock ∧ some k_ ≠ (.slice Ao111 y288.length co111 : Value).ownBlock) s_.1 y307) ∧ (w'.heap[gb271]? = some (.cells #[.int .i64 a0_0, .int .i64 a0_1, .int .u64 a0_2] 26 (0, 0))) ∧ (w'.heap[gb286]? = some (.cells #[.int .i64 t282, .int .i64 t283, .int .u64 t284] 26 (0, 0))) ∧ (w'.heap[gb295]? = some (.cells #[.int .i64 t291, .int .i64 t292, .int .u64 t293] 26 (0, 0))) ∧ (w'.heap[gb304]? = some (.cells #[.int .i64 t300, .int .i64 t301, .int .u64 t302] 26 (0, 0))) ∧ (w'.heap[s_.2]? = some (.cells #[.int .i64 0, .int .i64 0, .int .u64 0] 26 (0, 0))) ∧ (w.heap.size ≤ s_.2) ∧ (w.heap.size ≤ s_.2) ∧ (gb271 ≠ s_.2) ∧ (s_.2 ≠ gb271) ∧ (gb286 ≠ s_.2) ∧ (s_.2 ≠ gb286) ∧ (gb295 ≠ s_.2) ∧ (s_.2 ≠ gb295) ∧ (gb304 ≠ s_.2) ∧ (s_.2 ≠ gb304) ∧ (Below w.heap.size w w')) ?_ ?_
                    rotate_left
                    · intro hCont
                      refine two_ (i := 7) (j := 12) (Ni := some 73) (Nj := some 15) #[true, true, true, true, true, true, true, true, false, false, false, false, false, false, false] #[true, true, true, true, true, true, true, false, false, false, false, false, true, false, false] rfl rfl rfl rfl (two_of HT_.out (by kernel_rfl)) (by decide) (by decide) (fun K hK => ?_) (fun K hK => ?_)
                      · skip
                        refine Kd.R_lit_step (Kd.int .u64) _ 22 ?hg (N := 73) ?hd (xs := ([rd t273 0, rd t273 1, Go.bits .xor .u64 (rd t273 0) (ji8)] : List Int)) (inner := [.int .u64 (rd t273 0), .int .u64 (rd t273 1), .int .u64 (Go.bits .xor .u64 (rd t273 0) (ji8))]) (ok := fun _ => True) (okp := fun _ => True) ?hr ?hp (fun _ hk => hk) trivial (Below.refl _ _) (Nat.le_refl _) (by simp) ?_; (case hd => rfl); (case hg => rfl); (case hr => first | (go_simp; done) | (go_simp; rfl)); (case hp => exact (Reps.one (show Kd.M (Kd.int .u64) _ _ _ (rd t273 0) [.int .u64 (rd t273 0)] from rfl) (Reps.one (show Kd.M (Kd.int .u64) _ _ _ (rd t273 1) [.int .u64 (rd t273 1)] from rfl) (Reps.one (show Kd.M (Kd.int .u64) _ _ _ (Go.bits .xor .u64 (rd t273 0) (ji8)) [.int .u64 (Go.bits .xor .u64 (rd t273 0) (ji8))] from rfl) (Reps.none _ _)))))
                        intro v308 w127 ho128 hb hg_ hnew_
                        have HS0_ := (hb.cell (World.block_lt_of_cell? _ _ (hHeld.1))).trans (hHeld.1)
                        have HS1_ := (hb.cell (World.block_lt_of_cell? _ _ (hHeld.2))).trans (hHeld.2)
                        clear hg_ hnew_
                        (first | rw [← Ny307.out] at ho128 | (simp only [Int.reduceToNat] at ho128; rw [← Ny307.out] at ho128))
                        have n0_ := Aside0.mk (Kd.R_elder' (by (with_reducible repeat (first | apply Kd.R_alloc | apply Kd.R_drewN | apply Kd.R_drew)); exact HO275.out) (Kd.R_base ho128) hb)
                        have n1_ := Aside0.mk (Kd.R_elder' (by (with_reducible repeat (first | apply Kd.R_alloc | apply Kd.R_drewN | apply Kd.R_drew)); exact HO281.out) (Kd.R_base ho128) hb)
                        have n2_ := Aside0.mk (Kd.R_elder' (by (with_reducible repeat (first | apply Kd.R_alloc | apply Kd.R_drewN | apply Kd.R_drew)); exact HO290.out) (Kd.R_base ho128) hb)
                        have n3_ := Aside0.mk (Kd.R_lower (Kd.R_new' (Kd.R_new' (Kd.R_new' ho128 (Kd.R_lt (by (with_reducible repeat (first | apply Kd.R_alloc | apply Kd.R_drewN | apply Kd.R_drew)); exact HO275.out))) (Kd.R_lt (by (with_reducible repeat (first | apply Kd.R_alloc | apply Kd.R_drewN | apply Kd.R_drew)); exact HO281.out))) (Kd.R_lt (by (with_reducible repeat (first | apply Kd.R_alloc | apply Kd.R_drewN | apply Kd.R_drew)); exact HO290.out))) (below_size (by repeat (first | (with_reducible first | exact HB.out | apply below_alloc | apply pw_below_drewN | apply below_drew1 | refine below_set ?_ GE271.out | refine below_set ?_ GE286.out | refine below_set ?_ GE295.out | refine below_set ?_ GE304.out) | exact HB.out))))
                        have n4_ := Aside0.mk (blk_below (g := gb271) (o := .cells #[.int .i64 a0_0, .int .i64 a0_1, .int .u64 a0_2] 26 (0, 0)) (by (with_reducible repeat (first | refine blk_drewN ?_ _ | refine blk_drew ?_ | refine blk_alloc ?_ _)); exact BK271.out) hb)
                        have n5_ := Aside0.mk (blk_below (g := gb286) (o := .cells #[.int .i64 t282, .int .i64 t283, .int .u64 t284] 26 (0, 0)) (by (with_reducible repeat (first | refine blk_drewN ?_ _ | refine blk_drew ?_ | refine blk_alloc ?_ _)); exact BK286.out) hb)
                        have n6_ := Aside0.mk (blk_below (g := gb295) (o := .cells #[.int .i64 t291, .int .i64 t292, .int .u64 t293] 26 (0, 0)) (by (with_reducible repeat (first | refine blk_drewN ?_ _ | refine blk_drew ?_ | refine blk_alloc ?_ _)); exact BK295.out) hb)
                        have n7_ := Aside0.mk (blk_below (g := gb304) (o := .cells #[.int .i64 t300, .int .i64 t301, .int .u64 t302] 26 (0, 0)) (by (with_reducible repeat (first | refine blk_drewN ?_ _ | refine blk_drew ?_ | refine blk_alloc ?_ _)); exact BK304.out) hb)
                        have n8_ := Aside0.mk (below_step (by repeat (first | (with_reducible first | exact HB.out | apply below_alloc | apply pw_below_drewN | apply below_drew1 | refine below_set ?_ GE271.out | refine below_set ?_ GE286.out | refine below_set ?_ GE295.out | refine below_set ?_ GE304.out) | exact HB.out)) hb)
                        clear HO275
                        clear HO281
                        clear HO290
                        clear BK271
                        clear BK286
                        clear BK295
                        clear BK304
                        clear HB
                        have HO275 := n0_
                        have HO281 := n1_
                        have HO290 := n2_
                        have HO309 := n3_
                        have BK271 := n4_
                        have BK286 := n5_
                        have BK295 := n6_
                        have BK304 := n7_
                        have HB := n8_
                        clear n0_ n1_ n2_ n3_ n4_ n5_ n6_ n7_ n8_
                        clear hb ho128
                        obtain ⟨Ao129, co129, eo129⟩ := Kd.R_slice HO309.out
                        (first | subst eo129 | (injection eo129 with f1_ f2_ f3_; have f4_ := f1_.symm; have f5_ := f3_.symm; clear f1_ f2_ f3_; subst f4_; subst f5_))
                        refine hK.out _ _ ⟨HS0_, HS1_⟩ (fun hHeld => ?_)
                        clear hK K
                        refine norm_ (a' := ?_) ?_ ?_
                        rotate_left
                        · show Act.put _ (some 73) _ = _
                          simp only [Act.put, List.setIfInBounds_toArray, List.set_cons_zero, List.set_cons_succ, i64_w, i32_w]
                          rfl
                        refine two_ (i := 8) (j := 12) (Ni := some 74) (Nj := some 15) #[true, true, true, true, true, true, true, true, true, false, false, false, false, false, false] #[true, true, true, true, true, true, true, true, false, false, false, false, true, false, false] rfl rfl rfl rfl (two_of HT_.out (by kernel_rfl)) (by decide) (by decide) (fun K hK => ?_) (fun K hK => ?_)
                        · skip
                          refine goes_ Tryd.func17 (by kernel_rfl) rfl #[.slice Ao129 y307.length co129] (by rfl) rfl rfl (by (try simp only [List.map_toArray, List.map_cons, List.map_nil]); first | done | rfl | (simp only [List.length_drop, List.length_take]; rfl)) ?_
                          with_reducible refine (oid_Decode.calls _ _ y307 t310 t311 t312 t313 _ ?side1 ?side2 A14.out).mono ?_
                          (case side1 => repeat (first | exact (Kd.R_reads' HO309.out).2.2 | (with_reducible refine Kd.C_alloc ?_ _) | (with_reducible refine Kd.C_drewN ?_ _) | (with_reducible refine Kd.C_drew ?_)))
                          (case side2 => exact (Kd.R_reads' HO309.out).2.1)
                          rintro e w130 ⟨rfl, hb⟩
                          have HS0_ := (hb.cell (World.block_lt_of_cell? _ _ (hHeld.1))).trans (hHeld.1)
                          have HS1_ := (hb.cell (World.block_lt_of_cell? _ _ (hHeld.2))).trans (hHeld.2)
                          refine ⟨_, rfl, ?_⟩
                          have n0_ := Aside0.mk (Kd.R_below (by (with_reducible repeat (first | apply Kd.R_alloc | apply Kd.R_drewN | apply Kd.R_drew)); exact HO275.out) hb)
                          have n1_ := Aside0.mk (Kd.R_below (by (with_reducible repeat (first | apply Kd.R_alloc | apply Kd.R_drewN | apply Kd.R_drew)); exact HO281.out) hb)
                          have n2_ := Aside0.mk (Kd.R_below (by (with_reducible repeat (first | apply Kd.R_alloc | apply Kd.R_drewN | apply Kd.R_drew)); exact HO290.out) hb)
                          have n3_ := Aside0.mk (Kd.R_below (by (with_reducible repeat (first | apply Kd.R_alloc | apply Kd.R_drewN | apply Kd.R_drew)); exact HO309.out) hb)
                          have n4_ := Aside0.mk (blk_below (g := gb271) (o := .cells #[.int .i64 a0_0, .int .i64 a0_1, .int .u64 a0_2] 26 (0, 0)) (by (with_reducible repeat (first | refine blk_drewN ?_ _ | refine blk_drew ?_ | refine blk_alloc ?_ _)); exact BK271.out) hb)
                          have n5_ := Aside0.mk (blk_below (g := gb286) (o := .cells #[.int .i64 t282, .int .i64 t283, .int .u64 t284] 26 (0, 0)) (by (with_reducible repeat (first | refine blk_drewN ?_ _ | refine blk_drew ?_ | refine blk_alloc ?_ _)); exact BK286.out) hb)
                          have n6_ := Aside0.mk (blk_below (g := gb295) (o := .cells #[.int .i64 t291, .int .i64 t292, .int .u64 t293] 26 (0, 0)) (by (with_reducible repeat (first | refine blk_drewN ?_ _ | refine blk_drew ?_ | refine blk_alloc ?_ _)); exact BK295.out) hb)
                          have n7_ := Aside0.mk (blk_below (g := gb304) (o := .cells #[.int .i64 t300, .int .i64 t301, .int .u64 t302] 26 (0, 0)) (by (with_reducible repeat (first | refine blk_drewN ?_ _ | refine blk_drew ?_ | refine blk_alloc ?_ _)); exact BK304.out) hb)
                          have n8_ := Aside0.mk (below_step (by repeat (first | (with_reducible first | exact HB.out | apply below_alloc | apply pw_below_drewN | apply below_drew1 | refine below_set ?_ GE271.out | refine below_set ?_ GE286.out | refine below_set ?_ GE295.out | refine below_set ?_ GE304.out) | exact HB.out)) hb)
                          clear HO275
                          clear HO281
                          clear HO290
                          clear HO309
                          clear BK271
                          clear BK286
                          clear BK295
                          clear BK304
                          clear HB
                          have HO275 := n0_
                          have HO281 := n1_
                          have HO290 := n2_
                          have HO309 := n3_
                          have BK271 := n4_
                          have BK286 := n5_
                          have BK295 := n6_
                          have BK304 := n7_
                          have HB := n8_
                          clear n0_ n1_ n2_ n3_ n4_ n5_ n6_ n7_ n8_
                          (try clear hb)
                          (try clear hb2)
                          (try clear hk)
                          (try clear hi)
                          refine hK.out _ _ ⟨HS0_, HS1_⟩ (fun hHeld => ?_)
                          clear hK K
                          refine norm_ (a' := ?_) ?_ ?_
                          rotate_left
                          · show Act.put _ (some 74) _ = _
                            simp only [Act.put, List.setIfInBounds_toArray, List.set_cons_zero, List.set_cons_succ, i64_w, i32_w]
                            rfl
                          refine pure_ (i := 9) (N := some 65) (v := ?_) (a' := ?_) #[true, true, true, true, true, true, true, true, true, true, false, false, false, false, false] rfl rfl (any_of HT_.out (by kernel_rfl)) (fun _ _ _ h => h) (Or.inl ⟨by rfl, ?_⟩) ?_ ?_
                          rotate_left
                          · intro w'
                            go_simp
                            with_reducible rfl
                          rotate_left
                          · simp only [Act.put, List.setIfInBounds_toArray, List.set_cons_zero, List.set_cons_succ, i64_w, i32_w]
                            rfl
                          refine pure_ (i := 10) (N := some 75) (v := ?_) (a' := ?_) #[true, true, true, true, true, true, true, true, true, true, true, false, false, false, false] rfl rfl (any_of HT_.out (by kernel_rfl)) (fun _ _ _ h => h) (Or.inl ⟨by rfl, ?_⟩) ?_ ?_
                          rotate_left
                          · intro w'
                            go_simp
                            with_reducible rfl
                          rotate_left
                          · simp only [Act.put, List.setIfInBounds_toArray, List.set_cons_zero, List.set_cons_succ, i64_w, i32_w]
                            rfl
                          refine pure_ (i := 11) (N := some 76) (v := ?_) (a' := ?_) #[true, true, true, true, true, true, true, true, true, true, true, true, false, false, false] rfl rfl (any_of HT_.out (by kernel_rfl)) (fun _ _ _ h => h) (Or.inl ⟨by rfl, ?_⟩) ?_ ?_
                          rotate_left
                          · intro w'
                            go_simp
                            with_reducible rfl
                          rotate_left
                          · simp only [Act.put, List.setIfInBounds_toArray, List.set_cons_zero, List.set_cons_succ, i64_w, i32_w]
                            rfl
                          refine one_ (i := 12) (N := some 15) #[true, true, true, true, true, true, true, true, true, true, true, true, true, false, false] rfl rfl (one_of HT_.out (by kernel_rfl)) (by decide) (fun K hK => ?_)
                          refine box_step ?hg (N := 15) ?hd (cs := #[.int .i64 0, .int .i64 0, .int .u64 0]) (t := 26) ?hr ?_; (case hd => rfl); (case hg => rfl); (case hr => first | (go_simp; done) | (go_simp; rfl))
                          intro gb314 hg w131 hbox hb
                          have HS0_ := (hb.cell (World.block_lt_of_cell? _ _ (hHeld.1))).trans (hHeld.1)
                          have HS1_ := (hb.cell (World.block_lt_of_cell? _ _ (hHeld.2))).trans (hHeld.2)
                          have n0_ := Aside0.mk (Kd.R_below (by (with_reducible repeat (first | apply Kd.R_alloc | apply Kd.R_drewN | apply Kd.R_drew)); exact HO275.out) hb)
                          have n1_ := Aside0.mk (Kd.R_below (by (with_reducible repeat (first | apply Kd.R_alloc | apply Kd.R_drewN | apply Kd.R_drew)); exact HO281.out) hb)
                          have n2_ := Aside0.mk (Kd.R_below (by (with_reducible repeat (first | apply Kd.R_alloc | apply Kd.R_drewN | apply Kd.R_drew)); exact HO290.out) hb)
                          have n3_ := Aside0.mk (Kd.R_below (by (with_reducible repeat (first | apply Kd.R_alloc | apply Kd.R_drewN | apply Kd.R_drew)); exact HO309.out) hb)
                          have n4_ := Aside0.mk (blk_below (g := gb271) (o := .cells #[.int .i64 a0_0, .int .i64 a0_1, .int .u64 a0_2] 26 (0, 0)) (by (with_reducible repeat (first | refine blk_drewN ?_ _ | refine blk_drew ?_ | refine blk_alloc ?_ _)); exact BK271.out) hb)
                          have n5_ := Aside0.mk (blk_below (g := gb286) (o := .cells #[.int .i64 t282, .int .i64 t283, .int .u64 t284] 26 (0, 0)) (by (with_reducible repeat (first | refine blk_drewN ?_ _ | refine blk_drew ?_ | refine blk_alloc ?_ _)); exact BK286.out) hb)
                          have n6_ := Aside0.mk (blk_below (g := gb295) (o := .cells #[.int .i64 t291, .int .i64 t292, .int .u64 t293] 26 (0, 0)) (by (with_reducible repeat (first | refine blk_drewN ?_ _ | refine blk_drew ?_ | refine blk_alloc ?_ _)); exact BK295.out) hb)
                          have n7_ := Aside0.mk (blk_below (g := gb304) (o := .cells #[.int .i64 t300, .int .i64 t301, .int .u64 t302] 26 (0, 0)) (by (with_reducible repeat (first | refine blk_drewN ?_ _ | refine blk_drew ?_ | refine blk_alloc ?_ _)); exact BK304.out) hb)
                          have n8_ := Aside0.mk (below_step (by repeat (first | (with_reducible first | exact HB.out | apply below_alloc | apply pw_below_drewN | apply below_drew1 | refine below_set ?_ GE271.out | refine below_set ?_ GE286.out | refine below_set ?_ GE295.out | refine below_set ?_ GE304.out) | exact HB.out)) hb)
                          have n9_ := Aside0.mk (hbox)
                          have n10_ := Aside0.mk ((by rw [hg]; exact (below_size (by repeat (first | (with_reducible first | exact HB.out | apply below_alloc | apply pw_below_drewN | apply below_drew1 | refine below_set ?_ GE271.out | refine below_set ?_ GE286.out | refine below_set ?_ GE295.out | refine below_set ?_ GE304.out) | exact HB.out))) : w.heap.size ≤ gb314))
                          have n11_ := Aside0.mk ((by rw [hg]; exact (below_size (by repeat (first | (with_reducible first | exact HB.out | apply below_alloc | apply pw_below_drewN | apply below_drew1 | refine below_set ?_ GE271.out | refine below_set ?_ GE286.out | refine below_set ?_ GE295.out | refine below_set ?_ GE304.out) | exact HB.out))) : w.heap.size ≤ gb314))
                          have n12_ := Aside0.mk ((by rw [hg]; exact Nat.ne_of_lt (blk_lt (g := gb271) (o := .cells #[.int .i64 a0_0, .int .i64 a0_1, .int .u64 a0_2] 26 (0, 0)) (by (with_reducible repeat (first | refine blk_drewN ?_ _ | refine blk_drew ?_ | refine blk_alloc ?_ _)); exact BK271.out)) : gb271 ≠ gb314))
                          have n13_ := Aside0.mk ((by rw [hg]; exact Nat.ne_of_gt (blk_lt (g := gb271) (o := .cells #[.int .i64 a0_0, .int .i64 a0_1, .int .u64 a0_2] 26 (0, 0)) (by (with_reducible repeat (first | refine blk_drewN ?_ _ | refine blk_drew ?_ | refine blk_alloc ?_ _)); exact BK271.out)) : gb314 ≠ gb271))
                          have n14_ := Aside0.mk ((by rw [hg]; exact Nat.ne_of_lt (blk_lt (g := gb286) (o := .cells #[.int .i64 t282, .int .i64 t283, .int .u64 t284] 26 (0, 0)) (by (with_reducible repeat (first | refine blk_drewN ?_ _ | refine blk_drew ?_ | refine blk_alloc ?_ _)); exact BK286.out)) : gb286 ≠ gb314))
                          have n15_ := Aside0.mk ((by rw [hg]; exact Nat.ne_of_gt (blk_lt (g := gb286) (o := .cells #[.int .i64 t282, .int .i64 t283, .int .u64 t284] 26 (0, 0)) (by (with_reducible repeat (first | refine blk_drewN ?_ _ | refine blk_drew ?_ | refine blk_alloc ?_ _)); exact BK286.out)) : gb314 ≠ gb286))
                          have n16_ := Aside0.mk ((by rw [hg]; exact Nat.ne_of_lt (blk_lt (g := gb295) (o := .cells #[.int .i64 t291, .int .i64 t292, .int .u64 t293] 26 (0, 0)) (by (with_reducible repeat (first | refine blk_drewN ?_ _ | refine blk_drew ?_ | refine blk_alloc ?_ _)); exact BK295.out)) : gb295 ≠ gb314))
                          have n17_ := Aside0.mk ((by rw [hg]; exact Nat.ne_of_gt (blk_lt (g := gb295) (o := .cells #[.int .i64 t291, .int .i64 t292, .int .u64 t293] 26 (0, 0)) (by (with_reducible repeat (first | refine blk_drewN ?_ _ | refine blk_drew ?_ | refine blk_alloc ?_ _)); exact BK295.out)) : gb314 ≠ gb295))
                          have n18_ := Aside0.mk ((by rw [hg]; exact Nat.ne_of_lt (blk_lt (g := gb304) (o := .cells #[.int .i64 t300, .int .i64 t301, .int .u64 t302] 26 (0, 0)) (by (with_reducible repeat (first | refine blk_drewN ?_ _ | refine blk_drew ?_ | refine blk_alloc ?_ _)); exact BK304.out)) : gb304 ≠ gb314))
                          have n19_ := Aside0.mk ((by rw [hg]; exact Nat.ne_of_gt (blk_lt (g := gb304) (o := .cells #[.int .i64 t300, .int .i64 t301, .int .u64 t302] 26 (0, 0)) (by (with_reducible repeat (first | refine blk_drewN ?_ _ | refine blk_drew ?_ | refine blk_alloc ?_ _)); exact BK304.out)) : gb314 ≠ gb304))
                          clear HO275
                          clear HO281
                          clear HO290
                          clear HO309
                          clear BK271
                          clear BK286
                          clear BK295
                          clear BK304
                          clear HB
                          have HO275 := n0_
                          have HO281 := n1_
                          have HO290 := n2_
                          have HO309 := n3_
                          have BK271 := n4_
                          have BK286 := n5_
                          have BK295 := n6_
                          have BK304 := n7_
                          have HB := n8_
                          have BK314 := n9_
                          have GW314 := n10_
                          have GE314 := n11_
                          have NB271_314 := n12_
                          have NB314_271 := n13_
                          have NB286_314 := n14_
                          have NB314_286 := n15_
                          have NB295_314 := n16_
                          have NB314_295 := n17_
                          have NB304_314 := n18_
                          have NB314_304 := n19_
                          clear n0_ n1_ n2_ n3_ n4_ n5_ n6_ n7_ n8_ n9_ n10_ n11_ n12_ n13_ n14_ n15_ n16_ n17_ n18_ n19_
                          clear hb hbox hg
                          refine hK.out _ _ ⟨HS0_, HS1_⟩ (fun hHeld => ?_)
                          clear hK K
                          refine norm_ (a' := ?_) ?_ ?_
                          rotate_left
                          · show Act.put _ (some 15) _ = _
                            simp only [Act.put, List.setIfInBounds_toArray, List.set_cons_zero, List.set_cons_succ, i64_w, i32_w]
                            rfl
                          exact norm_ (by simp only [putAll, Act.put, List.setIfInBounds_toArray, List.set_cons_zero, List.set_cons_succ]) (hCont (.slice Ao129 y307.length co129, gb314) _ ⟨hHeld, (by (with_reducible repeat (first | apply Kd.R_alloc | apply Kd.R_drewN | apply Kd.R_drew)); exact Kd.R_mono HO275.out (fun _ hk => ⟨hk.1.1, ⟨hk.1.2, hk.2⟩⟩)), (by (with_reducible repeat (first | apply Kd.R_alloc | apply Kd.R_drewN | apply Kd.R_drew)); exact Kd.R_mono HO281.out (fun _ hk => ⟨hk.1.1, ⟨hk.1.2, hk.2⟩⟩)), (by (with_reducible repeat (first | apply Kd.R_alloc | apply Kd.R_drewN | apply Kd.R_drew)); exact Kd.R_mono HO290.out (fun _ hk => ⟨hk.1.1, ⟨hk.1.2, hk.2⟩⟩)), (by (with_reducible repeat (first | apply Kd.R_alloc | apply Kd.R_drewN | apply Kd.R_drew)); exact Kd.R_mono HO309.out (fun _ hk => ⟨hk.1.1.2, ⟨hk.1.2, hk.2⟩⟩)), (by (with_reducible repeat (first | refine blk_drewN ?_ _ | refine blk_drew ?_ | refine blk_alloc ?_ _)); exact BK271.out), (by (with_reducible repeat (first | refine blk_drewN ?_ _ | refine blk_drew ?_ | refine blk_alloc ?_ _)); exact BK286.out), (by (with_reducible repeat (first | refine blk_drewN ?_ _ | refine blk_drew ?_ | refine blk_alloc ?_ _)); exact BK295.out), (by (with_reducible repeat (first | refine blk_drewN ?_ _ | refine blk_drew ?_ | refine blk_alloc ?_ _)); exact BK304.out), (by (with_reducible repeat (first | refine blk_drewN ?_ _ | refine blk_drew ?_ | refine blk_alloc ?_ _)); exact BK314.out), GW314.out, GE314.out, NB271_314.out, NB314_271.out, NB286_314.out, NB314_286.out, NB295_314.out, NB314_295.out, NB304_314.out, NB314_304.out, (by repeat (first | (with_reducible first | exact HB.out | apply below_alloc | apply pw_below_drewN | apply below_drew1 | refine below_set ?_ GE271.out | refine below_set ?_ GE286.out | refine below_set ?_ GE295.out | refine below_set ?_ GE304.out | refine below_set ?_ GE314.out) | exact HB.out))⟩)
                        · skip
                          refine box_step ?hg (N := 15) ?hd (cs := #[.int .i64 0, .int .i64 0, .int .u64 0]) (t := 26) ?hr ?_; (case hd => rfl); (case hg => rfl); (case hr => first | (go_simp; done) | (go_simp; rfl))
                          intro gb314 hg w129 hbox hb
                          have HS0_ := (hb.cell (World.block_lt_of_cell? _ _ (hHeld.1))).trans (hHeld.1)
                          have HS1_ := (hb.cell (World.block_lt_of_cell? _ _ (hHeld.2))).trans (hHeld.2)
                          have n0_ := Aside0.mk (Kd.R_below (by (with_reducible repeat (first | apply Kd.R_alloc | apply Kd.R_drewN | apply Kd.R_drew)); exact HO275.out) hb)
                          have n1_ := Aside0.mk (Kd.R_below (by (with_reducible repeat (first | apply Kd.R_alloc | apply Kd.R_drewN | apply Kd.R_drew)); exact HO281.out) hb)
                          have n2_ := Aside0.mk (Kd.R_below (by (with_reducible repeat (first | apply Kd.R_alloc | apply Kd.R_drewN | apply Kd.R_drew)); exact HO290.out) hb)
                          have n3_ := Aside0.mk (Kd.R_below (by (with_reducible repeat (first | apply Kd.R_alloc | apply Kd.R_drewN | apply Kd.R_drew)); exact HO309.out) hb)
                          have n4_ := Aside0.mk (blk_below (g := gb271) (o := .cells #[.int .i64 a0_0, .int .i64 a0_1, .int .u64 a0_2] 26 (0, 0)) (by (with_reducible repeat (first | refine blk_drewN ?_ _ | refine blk_drew ?_ | refine blk_alloc ?_ _)); exact BK271.out) hb)
                          have n5_ := Aside0.mk (blk_below (g := gb286) (o := .cells #[.int .i64 t282, .int .i64 t283, .int .u64 t284] 26 (0, 0)) (by (with_reducible repeat (first | refine blk_drewN ?_ _ | refine blk_drew ?_ | refine blk_alloc ?_ _)); exact BK286.out) hb)
                          have n6_ := Aside0.mk (blk_below (g := gb295) (o := .cells #[.int .i64 t291, .int .i64 t292, .int .u64 t293] 26 (0, 0)) (by (with_reducible repeat (first | refine blk_drewN ?_ _ | refine blk_drew ?_ | refine blk_alloc ?_ _)); exact BK295.out) hb)
                          have n7_ := Aside0.mk (blk_below (g := gb304) (o := .cells #[.int .i64 t300, .int .i64 t301, .int .u64 t302] 26 (0, 0)) (by (with_reducible repeat (first | refine blk_drewN ?_ _ | refine blk_drew ?_ | refine blk_alloc ?_ _)); exact BK304.out) hb)
                          have n8_ := Aside0.mk (below_step (by repeat (first | (with_reducible first | exact HB.out | apply below_alloc | apply pw_below_drewN | apply below_drew1 | refine below_set ?_ GE271.out | refine below_set ?_ GE286.out | refine below_set ?_ GE295.out | refine below_set ?_ GE304.out) | exact HB.out)) hb)
                          have n9_ := Aside0.mk (hbox)
                          have n10_ := Aside0.mk ((by rw [hg]; exact (below_size (by repeat (first | (with_reducible first | exact HB.out | apply below_alloc | apply pw_below_drewN | apply below_drew1 | refine below_set ?_ GE271.out | refine below_set ?_ GE286.out | refine below_set ?_ GE295.out | refine below_set ?_ GE304.out) | exact HB.out))) : w.heap.size ≤ gb314))
                          have n11_ := Aside0.mk ((by rw [hg]; exact (below_size (by repeat (first | (with_reducible first | exact HB.out | apply below_alloc | apply pw_below_drewN | apply below_drew1 | refine below_set ?_ GE271.out | refine below_set ?_ GE286.out | refine below_set ?_ GE295.out | refine below_set ?_ GE304.out) | exact HB.out))) : w.heap.size ≤ gb314))
                          have n12_ := Aside0.mk ((by rw [hg]; exact Nat.ne_of_lt (blk_lt (g := gb271) (o := .cells #[.int .i64 a0_0, .int .i64 a0_1, .int .u64 a0_2] 26 (0, 0)) (by (with_reducible repeat (first | refine blk_drewN ?_ _ | refine blk_drew ?_ | refine blk_alloc ?_ _)); exact BK271.out)) : gb271 ≠ gb314))
                          have n13_ := Aside0.mk ((by rw [hg]; exact Nat.ne_of_gt (blk_lt (g := gb271) (o := .cells #[.int .i64 a0_0, .int .i64 a0_1, .int .u64 a0_2] 26 (0, 0)) (by (with_reducible repeat (first | refine blk_drewN ?_ _ | refine blk_drew ?_ | refine blk_alloc ?_ _)); exact BK271.out)) : gb314 ≠ gb271))
                          have n14_ := Aside0.mk ((by rw [hg]; exact Nat.ne_of_lt (blk_lt (g := gb286) (o := .cells #[.int .i64 t282, .int .i64 t283, .int .u64 t284] 26 (0, 0)) (by (with_reducible repeat (first | refine blk_drewN ?_ _ | refine blk_drew ?_ | refine blk_alloc ?_ _)); exact BK286.out)) : gb286 ≠ gb314))
                          have n15_ := Aside0.mk ((by rw [hg]; exact Nat.ne_of_gt (blk_lt (g := gb286) (o := .cells #[.int .i64 t282, .int .i64 t283, .int .u64 t284] 26 (0, 0)) (by (with_reducible repeat (first | refine blk_drewN ?_ _ | refine blk_drew ?_ | refine blk_alloc ?_ _)); exact BK286.out)) : gb314 ≠ gb286))
                          have n16_ := Aside0.mk ((by rw [hg]; exact Nat.ne_of_lt (blk_lt (g := gb295) (o := .cells #[.int .i64 t291, .int .i64 t292, .int .u64 t293] 26 (0, 0)) (by (with_reducible repeat (first | refine blk_drewN ?_ _ | refine blk_drew ?_ | refine blk_alloc ?_ _)); exact BK295.out)) : gb295 ≠ gb314))
                          have n17_ := Aside0.mk ((by rw [hg]; exact Nat.ne_of_gt (blk_lt (g := gb295) (o := .cells #[.int .i64 t291, .int .i64 t292, .int .u64 t293] 26 (0, 0)) (by (with_reducible repeat (first | refine blk_drewN ?_ _ | refine blk_drew ?_ | refine blk_alloc ?_ _)); exact BK295.out)) : gb314 ≠ gb295))
                          have n18_ := Aside0.mk ((by rw [hg]; exact Nat.ne_of_lt (blk_lt (g := gb304) (o := .cells #[.int .i64 t300, .int .i64 t301, .int .u64 t302] 26 (0, 0)) (by (with_reducible repeat (first | refine blk_drewN ?_ _ | refine blk_drew ?_ | refine blk_alloc ?_ _)); exact BK304.out)) : gb304 ≠ gb314))
                          have n19_ := Aside0.mk ((by rw [hg]; exact Nat.ne_of_gt (blk_lt (g := gb304) (o := .cells #[.int .i64 t300, .int .i64 t301, .int .u64 t302] 26 (0, 0)) (by (with_reducible repeat (first | refine blk_drewN ?_ _ | refine blk_drew ?_ | refine blk_alloc ?_ _)); exact BK304.out)) : gb314 ≠ gb304))
                          clear HO275
                          clear HO281
                          clear HO290
                          clear HO309
                          clear BK271
                          clear BK286
                          clear BK295
                          clear BK304
                          clear HB
                          have HO275 := n0_
                          have HO281 := n1_
                          have HO290 := n2_
                          have HO309 := n3_
                          have BK271 := n4_
                          have BK286 := n5_
                          have BK295 := n6_
                          have BK304 := n7_
                          have HB := n8_
                          have BK314 := n9_
                          have GW314 := n10_
                          have GE314 := n11_
                          have NB271_314 := n12_
                          have NB314_271 := n13_
                          have NB286_314 := n14_
                          have NB314_286 := n15_
                          have NB295_314 := n16_
                          have NB314_295 := n17_
                          have NB304_314 := n18_
                          have NB314_304 := n19_
                          clear n0_ n1_ n2_ n3_ n4_ n5_ n6_ n7_ n8_ n9_ n10_ n11_ n12_ n13_ n14_ n15_ n16_ n17_ n18_ n19_
                          clear hb hbox hg
                          obtain ⟨Ao130, co130, eo130⟩ := Kd.R_slice HO309.out
                          (first | subst eo130 | (injection eo130 with f1_ f2_ f3_; have f4_ := f1_.symm; have f5_ := f3_.symm; clear f1_ f2_ f3_; subst f4_; subst f5_))
                          refine hK.out _ _ ⟨HS0_, HS1_⟩ (fun hHeld => ?_)
                          clear hK K
                          refine norm_ (a' := ?_) ?_ ?_
                          rotate_left
                          · show Act.put _ (some 15) _ = _
                            simp only [Act.put, List.setIfInBounds_toArray, List.set_cons_zero, List.set_cons_succ, i64_w, i32_w]
                            rfl
                          refine one_ (i := 8) (N := some 74) #[true, true, true, true, true, true, true, true, true, false, false, false, true, false, false] rfl rfl (one_of HT_.out (by kernel_rfl)) (by decide) (fun K hK => ?_)
                          refine goes_ Tryd.func17 (by kernel_rfl) rfl #[.slice Ao130 y307.length co130] (by rfl) rfl rfl (by (try simp only [List.map_toArray, List.map_cons, List.map_nil]); first | done | rfl | (simp only [List.length_drop, List.length_take]; rfl)) ?_
                          with_reducible refine (oid_Decode.calls _ _ y307 t310 t311 t312 t313 _ ?side1 ?side2 A14.out).mono ?_
                          (case side1 => repeat (first | exact (Kd.R_reads' HO309.out).2.2 | (with_reducible refine Kd.C_alloc ?_ _) | (with_reducible refine Kd.C_drewN ?_ _) | (with_reducible refine Kd.C_drew ?_)))
                          (case side2 => exact (Kd.R_reads' HO309.out).2.1)
                          rintro e w131 ⟨rfl, hb⟩
                          have HS0_ := (hb.cell (World.block_lt_of_cell? _ _ (hHeld.1))).trans (hHeld.1)
                          have HS1_ := (hb.cell (World.block_lt_of_cell? _ _ (hHeld.2))).trans (hHeld.2)
                          refine ⟨_, rfl, ?_⟩
                          have n0_ := Aside0.mk (Kd.R_below (by (with_reducible repeat (first | apply Kd.R_alloc | apply Kd.R_drewN | apply Kd.R_drew)); exact HO275.out) hb)
                          have n1_ := Aside0.mk (Kd.R_below (by (with_reducible repeat (first | apply Kd.R_alloc | apply Kd.R_drewN | apply Kd.R_drew)); exact HO281.out) hb)
                          have n2_ := Aside0.mk (Kd.R_below (by (with_reducible repeat (first | apply Kd.R_alloc | apply Kd.R_drewN | apply Kd.R_drew)); exact HO290.out) hb)
                          have n3_ := Aside0.mk (Kd.R_below (by (with_reducible repeat (first | apply Kd.R_alloc | apply Kd.R_drewN | apply Kd.R_drew)); exact HO309.out) hb)
                          have n4_ := Aside0.mk (blk_below (g := gb271) (o := .cells #[.int .i64 a0_0, .int .i64 a0_1, .int .u64 a0_2] 26 (0, 0)) (by (with_reducible repeat (first | refine blk_drewN ?_ _ | refine blk_drew ?_ | refine blk_alloc ?_ _)); exact BK271.out) hb)
                          have n5_ := Aside0.mk (blk_below (g := gb286) (o := .cells #[.int .i64 t282, .int .i64 t283, .int .u64 t284] 26 (0, 0)) (by (with_reducible repeat (first | refine blk_drewN ?_ _ | refine blk_drew ?_ | refine blk_alloc ?_ _)); exact BK286.out) hb)
                          have n6_ := Aside0.mk (blk_below (g := gb295) (o := .cells #[.int .i64 t291, .int .i64 t292, .int .u64 t293] 26 (0, 0)) (by (with_reducible repeat (first | refine blk_drewN ?_ _ | refine blk_drew ?_ | refine blk_alloc ?_ _)); exact BK295.out) hb)
                          have n7_ := Aside0.mk (blk_below (g := gb304) (o := .cells #[.int .i64 t300, .int .i64 t301, .int .u64 t302] 26 (0, 0)) (by (with_reducible repeat (first | refine blk_drewN ?_ _ | refine blk_drew ?_ | refine blk_alloc ?_ _)); exact BK304.out) hb)
                          have n8_ := Aside0.mk (blk_below (g := gb314) (o := .cells #[.int .i64 0, .int .i64 0, .int .u64 0] 26 (0, 0)) (by (with_reducible repeat (first | refine blk_drewN ?_ _ | refine blk_drew ?_ | refine blk_alloc ?_ _)); exact BK314.out) hb)
                          have n9_ := Aside0.mk (below_step (by repeat (first | (with_reducible first | exact HB.out | apply below_alloc | apply pw_below_drewN | apply below_drew1 | refine below_set ?_ GE271.out | refine below_set ?_ GE286.out | refine below_set ?_ GE295.out | refine below_set ?_ GE304.out | refine below_set ?_ GE314.out) | exact HB.out)) hb)
                          clear HO275
                          clear HO281
                          clear HO290
                          clear HO309
                          clear BK271
                          clear BK286
                          clear BK295
                          clear BK304
                          clear BK314
                          clear HB
                          have HO275 := n0_
                          have HO281 := n1_
                          have HO290 := n2_
                          have HO309 := n3_
                          have BK271 := n4_
                          have BK286 := n5_
                          have BK295 := n6_
                          have BK304 := n7_
                          have BK314 := n8_
                          have HB := n9_
                          clear n0_ n1_ n2_ n3_ n4_ n5_ n6_ n7_ n8_ n9_
                          (try clear hb)
                          (try clear hb2)
                          (try clear hk)
                          (try clear hi)
                          refine hK.out _ _ ⟨HS0_, HS1_⟩ (fun hHeld => ?_)
                          clear hK K
                          refine norm_ (a' := ?_) ?_ ?_
                          rotate_left
                          · show Act.put _ (some 74) _ = _
                            simp only [Act.put, List.setIfInBounds_toArray, List.set_cons_zero, List.set_cons_succ, i64_w, i32_w]
                            rfl
                          refine pure_ (i := 9) (N := some 65) (v := ?_) (a' := ?_) #[true, true, true, true, true, true, true, true, true, true, false, false, true, false, false] rfl rfl (any_of HT_.out (by kernel_rfl)) (fun _ _ _ h => h) (Or.inl ⟨by rfl, ?_⟩) ?_ ?_
                          rotate_left
                          · intro w'
                            go_simp
                            with_reducible rfl
                          rotate_left
                          · simp only [Act.put, List.setIfInBounds_toArray, List.set_cons_zero, List.set_cons_succ, i64_w, i32_w]
                            rfl
                          refine pure_ (i := 10) (N := some 75) (v := ?_) (a' := ?_) #[true, true, true, true, true, true, true, true, true, true, true, false, true, false, false] rfl rfl (any_of HT_.out (by kernel_rfl)) (fun _ _ _ h => h) (Or.inl ⟨by rfl, ?_⟩) ?_ ?_
                          rotate_left
                          · intro w'
                            go_simp
                            with_reducible rfl
                          rotate_left
                          · simp only [Act.put, List.setIfInBounds_toArray, List.set_cons_zero, List.set_cons_succ, i64_w, i32_w]
                            rfl
                          refine pure_ (i := 11) (N := some 76) (v := ?_) (a' := ?_) #[true, true, true, true, true, true, true, true, true, true, true, true, true, false, false] rfl rfl (any_of HT_.out (by kernel_rfl)) (fun _ _ _ h => h) (Or.inl ⟨by rfl, ?_⟩) ?_ ?_
                          rotate_left
                          · intro w'
                            go_simp
                            with_reducible rfl
                          rotate_left
                          · simp only [Act.put, List.setIfInBounds_toArray, List.set_cons_zero, List.set_cons_succ, i64_w, i32_w]
                            rfl
                          exact norm_ (by simp only [putAll, Act.put, List.setIfInBounds_toArray, List.set_cons_zero, List.set_cons_succ]) (hCont (.slice Ao130 y307.length co130, gb314) _ ⟨hHeld, (by (with_reducible repeat (first | apply Kd.R_alloc | apply Kd.R_drewN | apply Kd.R_drew)); exact Kd.R_mono HO275.out (fun _ hk => ⟨hk.1.1, ⟨hk.1.2, hk.2⟩⟩)), (by (with_reducible repeat (first | apply Kd.R_alloc | apply Kd.R_drewN | apply Kd.R_drew)); exact Kd.R_mono HO281.out (fun _ hk => ⟨hk.1.1, ⟨hk.1.2, hk.2⟩⟩)), (by (with_reducible repeat (first | apply Kd.R_alloc | apply Kd.R_drewN | apply Kd.R_drew)); exact Kd.R_mono HO290.out (fun _ hk => ⟨hk.1.1, ⟨hk.1.2, hk.2⟩⟩)), (by (with_reducible repeat (first | apply Kd.R_alloc | apply Kd.R_drewN | apply Kd.R_drew)); exact Kd.R_mono HO309.out (fun _ hk => ⟨hk.1.1.2, ⟨hk.1.2, hk.2⟩⟩)), (by (with_reducible repeat (first | refine blk_drewN ?_ _ | refine blk_drew ?_ | refine blk_alloc ?_ _)); exact BK271.out), (by (with_reducible repeat (first | refine blk_drewN ?_ _ | refine blk_drew ?_ | refine blk_alloc ?_ _)); exact BK286.out), (by (with_reducible repeat (first | refine blk_drewN ?_ _ | refine blk_drew ?_ | refine blk_alloc ?_ _)); exact BK295.out), (by (with_reducible repeat (first | refine blk_drewN ?_ _ | refine blk_drew ?_ | refine blk_alloc ?_ _)); exact BK304.out), (by (with_reducible repeat (first | refine blk_drewN ?_ _ | refine blk_drew ?_ | refine blk_alloc ?_ _)); exact BK314.out), GW314.out, GE314.out, NB271_314.out, NB314_271.out, NB286_314.out, NB314_286.out, NB295_314.out, NB314_295.out, NB304_314.out, NB314_304.out, (by repeat (first | (with_reducible first | exact HB.out | apply below_alloc | apply pw_below_drewN | apply below_drew1 | refine below_set ?_ GE271.out | refine below_set ?_ GE286.out | refine below_set ?_ GE295.out | refine below_set ?_ GE304.out | refine below_set ?_ GE314.out) | exact HB.out))⟩)
                      · skip
                        refine box_step ?hg (N := 15) ?hd (cs := #[.int .i64 0, .int .i64 0, .int .u64 0]) (t := 26) ?hr ?_; (case hd => rfl); (case hg => rfl); (case hr => first | (go_simp; done) | (go_simp; rfl))
                        intro gb314 hg w127 hbox hb
                        have HS0_ := (hb.cell (World.block_lt_of_cell? _ _ (hHeld.1))).trans (hHeld.1)
                        have HS1_ := (hb.cell (World.block_lt_of_cell? _ _ (hHeld.2))).trans (hHeld.2)
                        have n0_ := Aside0.mk (Kd.R_below (by (with_reducible repeat (first | apply Kd.R_alloc | apply Kd.R_drewN | apply Kd.R_drew)); exact HO275.out) hb)
                        have n1_ := Aside0.mk (Kd.R_below (by (with_reducible repeat (first | apply Kd.R_alloc | apply Kd.R_drewN | apply Kd.R_drew)); exact HO281.out) hb)
                        have n2_ := Aside0.mk (Kd.R_below (by (with_reducible repeat (first | apply Kd.R_alloc | apply Kd.R_drewN | apply Kd.R_drew)); exact HO290.out) hb)
                        have n3_ := Aside0.mk (blk_below (g := gb271) (o := .cells #[.int .i64 a0_0, .int .i64 a0_1, .int .u64 a0_2] 26 (0, 0)) (by (with_reducible repeat (first | refine blk_drewN ?_ _ | refine blk_drew ?_ | refine blk_alloc ?_ _)); exact BK271.out) hb)
                        have n4_ := Aside0.mk (blk_below (g := gb286) (o := .cells #[.int .i64 t282, .int .i64 t283, .int .u64 t284] 26 (0, 0)) (by (with_reducible repeat (first | refine blk_drewN ?_ _ | refine blk_drew ?_ | refine blk_alloc ?_ _)); exact BK286.out) hb)
                        have n5_ := Aside0.mk (blk_below (g := gb295) (o := .cells #[.int .i64 t291, .int .i64 t292, .int .u64 t293] 26 (0, 0)) (by (with_reducible repeat (first | refine blk_drewN ?_ _ | refine blk_drew ?_ | refine blk_alloc ?_ _)); exact BK295.out) hb)
                        have n6_ := Aside0.mk (blk_below (g := gb304) (o := .cells #[.int .i64 t300, .int .i64 t301, .int .u64 t302] 26 (0, 0)) (by (with_reducible repeat (first | refine blk_drewN ?_ _ | refine blk_drew ?_ | refine blk_alloc ?_ _)); exact BK304.out) hb)
                        have n7_ := Aside0.mk (below_step (by repeat (first | (with_reducible first | exact HB.out | apply below_alloc | apply pw_below_drewN | apply below_drew1 | refine below_set ?_ GE271.out | refine below_set ?_ GE286.out | refine below_set ?_ GE295.out | refine below_set ?_ GE304.out) | exact HB.out)) hb)
                        have n8_ := Aside0.mk (hbox)
                        have n9_ := Aside0.mk ((by rw [hg]; exact (below_size (by repeat (first | (with_reducible first | exact HB.out | apply below_alloc | apply pw_below_drewN | apply below_drew1 | refine below_set ?_ GE271.out | refine below_set ?_ GE286.out | refine below_set ?_ GE295.out | refine below_set ?_ GE304.out) | exact HB.out))) : w.heap.size ≤ gb314))
                        have n10_ := Aside0.mk ((by rw [hg]; exact (below_size (by repeat (first | (with_reducible first | exact HB.out | apply below_alloc | apply pw_below_drewN | apply below_drew1 | refine below_set ?_ GE271.out | refine below_set ?_ GE286.out | refine below_set ?_ GE295.out | refine below_set ?_ GE304.out) | exact HB.out))) : w.heap.size ≤ gb314))
                        have n11_ := Aside0.mk ((by rw [hg]; exact Nat.ne_of_lt (blk_lt (g := gb271) (o := .cells #[.int .i64 a0_0, .int .i64 a0_1, .int .u64 a0_2] 26 (0, 0)) (by (with_reducible repeat (first | refine blk_drewN ?_ _ | refine blk_drew ?_ | refine blk_alloc ?_ _)); exact BK271.out)) : gb271 ≠ gb314))
                        have n12_ := Aside0.mk ((by rw [hg]; exact Nat.ne_of_gt (blk_lt (g := gb271) (o := .cells #[.int .i64 a0_0, .int .i64 a0_1, .int .u64 a0_2] 26 (0, 0)) (by (with_reducible repeat (first | refine blk_drewN ?_ _ | refine blk_drew ?_ | refine blk_alloc ?_ _)); exact BK271.out)) : gb314 ≠ gb271))
                        have n13_ := Aside0.mk ((by rw [hg]; exact Nat.ne_of_lt (blk_lt (g := gb286) (o := .cells #[.int .i64 t282, .int .i64 t283, .int .u64 t284] 26 (0, 0)) (by (with_reducible repeat (first | refine blk_drewN ?_ _ | refine blk_drew ?_ | refine blk_alloc ?_ _)); exact BK286.out)) : gb286 ≠ gb314))
                        have n14_ := Aside0.mk ((by rw [hg]; exact Nat.ne_of_gt (blk_lt (g := gb286) (o := .cells #[.int .i64 t282, .int .i64 t283, .int .u64 t284] 26 (0, 0)) (by (with_reducible repeat (first | refine blk_drewN ?_ _ | refine blk_drew ?_ | refine blk_alloc ?_ _)); exact BK286.out)) : gb314 ≠ gb286))
                        have n15_ := Aside0.mk ((by rw [hg]; exact Nat.ne_of_lt (blk_lt (g := gb295) (o := .cells #[.int .i64 t291, .int .i64 t292, .int .u64 t293] 26 (0, 0)) (by (with_reducible repeat (first | refine blk_drewN ?_ _ | refine blk_drew ?_ | refine blk_alloc ?_ _)); exact BK295.out)) : gb295 ≠ gb314))
                        have n16_ := Aside0.mk ((by rw [hg]; exact Nat.ne_of_gt (blk_lt (g := gb295) (o := .cells #[.int .i64 t291, .int .i64 t292, .int .u64 t293] 26 (0, 0)) (by (with_reducible repeat (first | refine blk_drewN ?_ _ | refine blk_drew ?_ | refine blk_alloc ?_ _)); exact BK295.out)) : gb314 ≠ gb295))
                        have n17_ := Aside0.mk ((by rw [hg]; exact Nat.ne_of_lt (blk_lt (g := gb304) (o := .cells #[.int .i64 t300, .int .i64 t301, .int .u64 t302] 26 (0, 0)) (by (with_reducible repeat (first | refine blk_drewN ?_ _ | refine blk_drew ?_ | refine blk_alloc ?_ _)); exact BK304.out)) : gb304 ≠ gb314))
                        have n18_ := Aside0.mk ((by rw [hg]; exact Nat.ne_of_gt (blk_lt (g := gb304) (o := .cells #[.int .i64 t300, .int .i64 t301, .int .u64 t302] 26 (0, 0)) (by (with_reducible repeat (first | refine blk_drewN ?_ _ | refine blk_drew ?_ | refine blk_alloc ?_ _)); exact BK304.out)) : gb314 ≠ gb304))
                        clear HO275
                        clear HO281
                        clear HO290
                        clear BK271
                        clear BK286
                        clear BK295
                        clear BK304
                        clear HB
                        have HO275 := n0_
                        have HO281 := n1_
                        have HO290 := n2_
                        have BK271 := n3_
                        have BK286 := n4_
                        have BK295 := n5_
                        have BK304 := n6_
                        have HB := n7_
                        have BK314 := n8_
                        have GW314 := n9_
                        have GE314 := n10_
                        have NB271_314 := n11_
                        have NB314_271 := n12_
                        have NB286_314 := n13_
                        have NB314_286 := n14_
                        have NB295_314 := n15_
                        have NB314_295 := n16_
                        have NB304_314 := n17_
                        have NB314_304 := n18_
                        clear n0_ n1_ n2_ n3_ n4_ n5_ n6_ n7_ n8_ n9_ n10_ n11_ n12_ n13_ n14_ n15_ n16_ n17_ n18_
                        clear hb hbox hg
                        refine hK.out _ _ ⟨HS0_, HS1_⟩ (fun hHeld => ?_)
                        clear hK K
                        refine norm_ (a' := ?_) ?_ ?_
                        rotate_left
                        · show Act.put _ (some 15) _ = _
                          simp only [Act.put, List.setIfInBounds_toArray, List.set_cons_zero, List.set_cons_succ, i64_w, i32_w]
                          rfl
                        refine one_ (i := 7) (N := some 73) #[true, true, true, true, true, true, true, true, false, false, false, false, true, false, false] rfl rfl (one_of HT_.out (by kernel_rfl)) (by decide) (fun K hK => ?_)
                        refine Kd.R_lit_step (Kd.int .u64) _ 22 ?hg (N := 73) ?hd (xs := ([rd t273 0, rd t273 1, Go.bits .xor .u64 (rd t273 0) (ji8)] : List Int)) (inner := [.int .u64 (rd t273 0), .int .u64 (rd t273 1), .int .u64 (Go.bits .xor .u64 (rd t273 0) (ji8))]) (ok := fun _ => True) (okp := fun _ => True) ?hr ?hp (fun _ hk => hk) trivial (Below.refl _ _) (Nat.le_refl _) (by simp) ?_; (case hd => rfl); (case hg => rfl); (case hr => first | (go_simp; done) | (go_simp; rfl)); (case hp => exact (Reps.one (show Kd.M (Kd.int .u64) _ _ _ (rd t273 0) [.int .u64 (rd t273 0)] from rfl) (Reps.one (show Kd.M (Kd.int .u64) _ _ _ (rd t273 1) [.int .u64 (rd t273 1)] from rfl) (Reps.one (show Kd.M (Kd.int .u64) _ _ _ (Go.bits .xor .u64 (rd t273 0) (ji8)) [.int .u64 (Go.bits .xor .u64 (rd t273 0) (ji8))] from rfl) (Reps.none _ _)))))
                        intro v308 w128 ho129 hb hg_ hnew_
                        have HS0_ := (hb.cell (World.block_lt_of_cell? _ _ (hHeld.1))).trans (hHeld.1)
                        have HS1_ := (hb.cell (World.block_lt_of_cell? _ _ (hHeld.2))).trans (hHeld.2)
                        clear hg_ hnew_
                        (first | rw [← Ny307.out] at ho129 | (simp only [Int.reduceToNat] at ho129; rw [← Ny307.out] at ho129))
                        have n0_ := Aside0.mk (Kd.R_elder' (by (with_reducible repeat (first | apply Kd.R_alloc | apply Kd.R_drewN | apply Kd.R_drew)); exact HO275.out) (Kd.R_base ho129) hb)
                        have n1_ := Aside0.mk (Kd.R_elder' (by (with_reducible repeat (first | apply Kd.R_alloc | apply Kd.R_drewN | apply Kd.R_drew)); exact HO281.out) (Kd.R_base ho129) hb)
                        have n2_ := Aside0.mk (Kd.R_elder' (by (with_reducible repeat (first | apply Kd.R_alloc | apply Kd.R_drewN | apply Kd.R_drew)); exact HO290.out) (Kd.R_base ho129) hb)
                        have n3_ := Aside0.mk (Kd.R_lower (Kd.R_new' (Kd.R_new' (Kd.R_new' ho129 (Kd.R_lt (by (with_reducible repeat (first | apply Kd.R_alloc | apply Kd.R_drewN | apply Kd.R_drew)); exact HO275.out))) (Kd.R_lt (by (with_reducible repeat (first | apply Kd.R_alloc | apply Kd.R_drewN | apply Kd.R_drew)); exact HO281.out))) (Kd.R_lt (by (with_reducible repeat (first | apply Kd.R_alloc | apply Kd.R_drewN | apply Kd.R_drew)); exact HO290.out))) (below_size (by repeat (first | (with_reducible first | exact HB.out | apply below_alloc | apply pw_below_drewN | apply below_drew1 | refine below_set ?_ GE271.out | refine below_set ?_ GE286.out | refine below_set ?_ GE295.out | refine below_set ?_ GE304.out | refine below_set ?_ GE314.out) | exact HB.out))))
                        have n4_ := Aside0.mk (blk_below (g := gb271) (o := .cells #[.int .i64 a0_0, .int .i64 a0_1, .int .u64 a0_2] 26 (0, 0)) (by (with_reducible repeat (first | refine blk_drewN ?_ _ | refine blk_drew ?_ | refine blk_alloc ?_ _)); exact BK271.out) hb)
                        have n5_ := Aside0.mk (blk_below (g := gb286) (o := .cells #[.int .i64 t282, .int .i64 t283, .int .u64 t284] 26 (0, 0)) (by (with_reducible repeat (first | refine blk_drewN ?_ _ | refine blk_drew ?_ | refine blk_alloc ?_ _)); exact BK286.out) hb)
                        have n6_ := Aside0.mk (blk_below (g := gb295) (o := .cells #[.int .i64 t291, .int .i64 t292, .int .u64 t293] 26 (0, 0)) (by (with_reducible repeat (first | refine blk_drewN ?_ _ | refine blk_drew ?_ | refine blk_alloc ?_ _)); exact BK295.out) hb)
                        have n7_ := Aside0.mk (blk_below (g := gb304) (o := .cells #[.int .i64 t300, .int .i64 t301, .int .u64 t302] 26 (0, 0)) (by (with_reducible repeat (first | refine blk_drewN ?_ _ | refine blk_drew ?_ | refine blk_alloc ?_ _)); exact BK304.out) hb)
                        have n8_ := Aside0.mk (blk_below (g := gb314) (o := .cells #[.int .i64 0, .int .i64 0, .int .u64 0] 26 (0, 0)) (by (with_reducible repeat (first | refine blk_drewN ?_ _ | refine blk_drew ?_ | refine blk_alloc ?_ _)); exact BK314.out) hb)
                        have n9_ := Aside0.mk (below_step (by repeat (first | (with_reducible first | exact HB.out | apply below_alloc | apply pw_below_drewN | apply below_drew1 | refine below_set ?_ GE271.out | refine below_set ?_ GE286.out | refine below_set ?_ GE295.out | refine below_set ?_ GE304.out | refine below_set ?_ GE314.out) | exact HB.out)) hb)
                        clear HO275
                        clear HO281
                        clear HO290
                        clear BK271
                        clear BK286
                        clear BK295
                        clear BK304
                        clear BK314
                        clear HB
                        have HO275 := n0_
                        have HO281 := n1_
                        have HO290 := n2_
                        have HO309 := n3_
                        have BK271 := n4_
                        have BK286 := n5_
                        have BK295 := n6_
                        have BK304 := n7_
                        have BK314 := n8_
                        have HB := n9_
                        clear n0_ n1_ n2_ n3_ n4_ n5_ n6_ n7_ n8_ n9_
                        clear hb ho129
                        obtain ⟨Ao130, co130, eo130⟩ := Kd.R_slice HO309.out
                        (first | subst eo130 | (injection eo130 with f1_ f2_ f3_; have f4_ := f1_.symm; have f5_ := f3_.symm; clear f1_ f2_ f3_; subst f4_; subst f5_))
                        refine hK.out _ _ ⟨HS0_, HS1_⟩ (fun hHeld => ?_)
                        clear hK K
                        refine norm_ (a' := ?_) ?_ ?_
                        rotate_left
                        · show Act.put _ (some 73) _ = _
                          simp only [Act.put, List.setIfInBounds_toArray, List.set_cons_zero, List.set_cons_succ, i64_w, i32_w]
                          rfl
                        refine one_ (i := 8) (N := some 74) #[true, true, true, true, true, true, true, true, true, false, false, false, true, false, false] rfl rfl (one_of HT_.out (by kernel_rfl)) (by decide) (fun K hK => ?_)
                        refine goes_ Tryd.func17 (by kernel_rfl) rfl #[.slice Ao130 y307.length co130] (by rfl) rfl rfl (by (try simp only [List.map_toArray, List.map_cons, List.map_nil]); first | done | rfl | (simp only [List.length_drop, List.length_take]; rfl)) ?_
                        with_reducible refine (oid_Decode.calls _ _ y307 t310 t311 t312 t313 _ ?side1 ?side2 A14.out).mono ?_
                        (case side1 => repeat (first | exact (Kd.R_reads' HO309.out).2.2 | (with_reducible refine Kd.C_alloc ?_ _) | (with_reducible refine Kd.C_drewN ?_ _) | (with_reducible refine Kd.C_drew ?_)))
                        (case side2 => exact (Kd.R_reads' HO309.out).2.1)
                        rintro e w131 ⟨rfl, hb⟩
                        have HS0_ := (hb.cell (World.block_lt_of_cell? _ _ (hHeld.1))).trans (hHeld.1)
                        have HS1_ := (hb.cell (World.block_lt_of_cell? _ _ (hHeld.2))).trans (hHeld.2)
                        refine ⟨_, rfl, ?_⟩
                        have n0_ := Aside0.mk (Kd.R_below (by (with_reducible repeat (first | apply Kd.R_alloc | apply Kd.R_drewN | apply Kd.R_drew)); exact HO275.out) hb)
                        have n1_ := Aside0.mk (Kd.R_below (by (with_reducible repeat (first | apply Kd.R_alloc | apply Kd.R_drewN | apply Kd.R_drew)); exact HO281.out) hb)
                        have n2_ := Aside0.mk (Kd.R_below (by (with_reducible repeat (first | apply Kd.R_alloc | apply Kd.R_drewN | apply Kd.R_drew)); exact HO290.out) hb)
                        have n3_ := Aside0.mk (Kd.R_below (by (with_reducible repeat (first | apply Kd.R_alloc | apply Kd.R_drewN | apply Kd.R_drew)); exact HO309.out) hb)
                        have n4_ := Aside0.mk (blk_below (g := gb271) (o := .cells #[.int .i64 a0_0, .int .i64 a0_1, .int .u64 a0_2] 26 (0, 0)) (by (with_reducible repeat (first | refine blk_drewN ?_ _ | refine blk_drew ?_ | refine blk_alloc ?_ _)); exact BK271.out) hb)
                        have n5_ := Aside0.mk (blk_below (g := gb286) (o := .cells #[.int .i64 t282, .int .i64 t283, .int .u64 t284] 26 (0, 0)) (by (with_reducible repeat (first | refine blk_drewN ?_ _ | refine blk_drew ?_ | refine blk_alloc ?_ _)); exact BK286.out) hb)
                        have n6_ := Aside0.mk (blk_below (g := gb295) (o := .cells #[.int .i64 t291, .int .i64 t292, .int .u64 t293] 26 (0, 0)) (by (with_reducible repeat (first | refine blk_drewN ?_ _ | refine blk_drew ?_ | refine blk_alloc ?_ _)); exact BK295.out) hb)
                        have n7_ := Aside0.mk (blk_below (g := gb304) (o := .cells #[.int .i64 t300, .int .i64 t301, .int .u64 t302] 26 (0, 0)) (by (with_reducible repeat (first | refine blk_drewN ?_ _ | refine blk_drew ?_ | refine blk_alloc ?_ _)); exact BK304.out) hb)
                        have n8_ := Aside0.mk (blk_below (g := gb314) (o := .cells #[.int .i64 0, .int .i64 0, .int .u64 0] 26 (0, 0)) (by (with_reducible repeat (first | refine blk_drewN ?_ _ | refine blk_drew ?_ | refine blk_alloc ?_ _)); exact BK314.out) hb)
                        have n9_ := Aside0.mk (below_step (by repeat (first | (with_reducible first | exact HB.out | apply below_alloc | apply pw_below_drewN | apply below_drew1 | refine below_set ?_ GE271.out | refine below_set ?_ GE286.out | refine below_set ?_ GE295.out | refine below_set ?_ GE304.out | refine below_set ?_ GE314.out) | exact HB.out)) hb)
                        clear HO275
                        clear HO281
                        clear HO290
                        clear HO309
                        clear BK271
                        clear BK286
                        clear BK295
                        clear BK304
                        clear BK314
                        clear HB
                        have HO275 := n0_
                        have HO281 := n1_
                        have HO290 := n2_
                        have HO309 := n3_
                        have BK271 := n4_
                        have BK286 := n5_
                        have BK295 := n6_
                        have BK304 := n7_
                        have BK314 := n8_
                        have HB := n9_
                        clear n0_ n1_ n2_ n3_ n4_ n5_ n6_ n7_ n8_ n9_
                        (try clear hb)
                        (try clear hb2)
                        (try clear hk)
                        (try clear hi)
                        refine hK.out _ _ ⟨HS0_, HS1_⟩ (fun hHeld => ?_)
                        clear hK K
                        refine norm_ (a' := ?_) ?_ ?_
                        rotate_left
                        · show Act.put _ (some 74) _ = _
                          simp only [Act.put, List.setIfInBounds_toArray, List.set_cons_zero, List.set_cons_succ, i64_w, i32_w]
                          rfl
                        refine pure_ (i := 9) (N := some 65) (v := ?_) (a' := ?_) #[true, true, true, true, true, true, true, true, true, true, false, false, true, false, false] rfl rfl (any_of HT_.out (by kernel_rfl)) (fun _ _ _ h => h) (Or.inl ⟨by rfl, ?_⟩) ?_ ?_
                        rotate_left
                        · intro w'
                          go_simp
                          with_reducible rfl
                        rotate_left
                        · simp only [Act.put, List.setIfInBounds_toArray, List.set_cons_zero, List.set_cons_succ, i64_w, i32_w]
                          rfl
                        refine pure_ (i := 10) (N := some 75) (v := ?_) (a' := ?_) #[true, true, true, true, true, true, true, true, true, true, true, false, true, false, false] rfl rfl (any_of HT_.out (by kernel_rfl)) (fun _ _ _ h => h) (Or.inl ⟨by rfl, ?_⟩) ?_ ?_
                        rotate_left
                        · intro w'
                          go_simp
                          with_reducible rfl
                        rotate_left
                        · simp only [Act.put, List.setIfInBounds_toArray, List.set_cons_zero, List.set_cons_succ, i64_w, i32_w]
                          rfl
                        refine pure_ (i := 11) (N := some 76) (v := ?_) (a' := ?_) #[true, true, true, true, true, true, true, true, true, true, true, true, true, false, false] rfl rfl (any_of HT_.out (by kernel_rfl)) (fun _ _ _ h => h) (Or.inl ⟨by rfl, ?_⟩) ?_ ?_
                        rotate_left
                        · intro w'
                          go_simp
                          with_reducible rfl
                        rotate_left
                        · simp only [Act.put, List.setIfInBounds_toArray, List.set_cons_zero, List.set_cons_succ, i64_w, i32_w]
                          rfl
                        exact norm_ (by simp only [putAll, Act.put, List.setIfInBounds_toArray, List.set_cons_zero, List.set_cons_succ]) (hCont (.slice Ao130 y307.length co130, gb314) _ ⟨hHeld, (by (with_reducible repeat (first | apply Kd.R_alloc | apply Kd.R_drewN | apply Kd.R_drew)); exact Kd.R_mono HO275.out (fun _ hk => ⟨hk.1.1, ⟨hk.1.2, hk.2⟩⟩)), (by (with_reducible repeat (first | apply Kd.R_alloc | apply Kd.R_drewN | apply Kd.R_drew)); exact Kd.R_mono HO281.out (fun _ hk => ⟨hk.1.1, ⟨hk.1.2, hk.2⟩⟩)), (by (with_reducible repeat (first | apply Kd.R_alloc | apply Kd.R_drewN | apply Kd.R_drew)); exact Kd.R_mono HO290.out (fun _ hk => ⟨hk.1.1, ⟨hk.1.2, hk.2⟩⟩)), (by (with_reducible repeat (first | apply Kd.R_alloc | apply Kd.R_drewN | apply Kd.R_drew)); exact Kd.R_mono HO309.out (fun _ hk => ⟨hk.1.1.2, ⟨hk.1.2, hk.2⟩⟩)), (by (with_reducible repeat (first | refine blk_drewN ?_ _ | refine blk_drew ?_ | refine blk_alloc ?_ _)); exact BK271.out), (by (with_reducible repeat (first | refine blk_drewN ?_ _ | refine blk_drew ?_ | refine blk_alloc ?_ _)); exact BK286.out), (by (with_reducible repeat (first | refine blk_drewN ?_ _ | refine blk_drew ?_ | refine blk_alloc ?_ _)); exact BK295.out), (by (with_reducible repeat (first | refine blk_drewN ?_ _ | refine blk_drew ?_ | refine blk_alloc ?_ _)); exact BK304.out), (by (with_reducible repeat (first | refine blk_drewN ?_ _ | refine blk_drew ?_ | refine blk_alloc ?_ _)); exact BK314.out), GW314.out, GE314.out, NB271_314.out, NB314_271.out, NB286_314.out, NB314_286.out, NB295_314.out, NB314_295.out, NB304_314.out, NB314_304.out, (by repeat (first | (with_reducible first | exact HB.out | apply below_alloc | apply pw_below_drewN | apply below_drew1 | refine below_set ?_ GE271.out | refine below_set ?_ GE286.out | refine below_set ?_ GE295.out | refine below_set ?_ GE304.out | refine below_set ?_ GE314.out) | exact HB.out))⟩)
                    rintro ⟨v308, gb314⟩ w132 ⟨hS_, h0_, h1_, h2_, h3_, h4_, h5_, h6_, h7_, h8_, h9_, h10_, h11_, h12_, h13_, h14_, h15_, h16_, h17_, h18_, h19_⟩
                    have n0_ : Aside0 (Kd.R (Kd.int .u64) 22 w132 w.heap.size (fun k_ => some k_ ≠ (.slice Ao104 y279.length co104 : Value).ownBlock ∧ some k_ ≠ (.slice Ao111 y288.length co111 : Value).ownBlock ∧ some k_ ≠ (v308 : Value).ownBlock) (.slice (some ad277) t273.length co101) t273) := ⟨h0_⟩
                    have n1_ : Aside0 (Kd.R (Kd.int .u64) 22 w132 w.heap.size (fun k_ => some k_ ≠ (.slice (some ad277) t273.length co101 : Value).ownBlock ∧ some k_ ≠ (.slice Ao111 y288.length co111 : Value).ownBlock ∧ some k_ ≠ (v308 : Value).ownBlock) (.slice Ao104 y279.length co104) y279) := ⟨h1_⟩
                    have n2_ : Aside0 (Kd.R (Kd.int .u64) 22 w132 w.heap.size (fun k_ => some k_ ≠ (.slice (some ad277) t273.length co101 : Value).ownBlock ∧ some k_ ≠ (.slice Ao104 y279.length co104 : Value).ownBlock ∧ some k_ ≠ (v308 : Value).ownBlock) (.slice Ao111 y288.length co111) y288) := ⟨h2_⟩
                    have n3_ : Aside0 (Kd.R (Kd.int .u64) 22 w132 w.heap.size (fun k_ => some k_ ≠ (.slice (some ad277) t273.length co101 : Value).ownBlock ∧ some k_ ≠ (.slice Ao104 y279.length co104 : Value).ownBlock ∧ some k_ ≠ (.slice Ao111 y288.length co111 : Value).ownBlock) v308 y307) := ⟨h3_⟩
                    have n4_ : Aside0 (w132.heap[gb271]? = some (.cells #[.int .i64 a0_0, .int .i64 a0_1, .int .u64 a0_2] 26 (0, 0))) := ⟨h4_⟩
                    have n5_ : Aside0 (w132.heap[gb286]? = some (.cells #[.int .i64 t282, .int .i64 t283, .int .u64 t284] 26 (0, 0))) := ⟨h5_⟩
                    have n6_ : Aside0 (w132.heap[gb295]? = some (.cells #[.int .i64 t291, .int .i64 t292, .int .u64 t293] 26 (0, 0))) := ⟨h6_⟩
                    have n7_ : Aside0 (w132.heap[gb304]? = some (.cells #[.int .i64 t300, .int .i64 t301, .int .u64 t302] 26 (0, 0))) := ⟨h7_⟩
                    have n8_ : Aside0 (w132.heap[gb314]? = some (.cells #[.int .i64 0, .int .i64 0, .int .u64 0] 26 (0, 0))) := ⟨h8_⟩
                    have n9_ : Aside0 (w.heap.size ≤ gb314) := ⟨h9_⟩
                    have n10_ : Aside0 (w.heap.size ≤ gb314) := ⟨h10_⟩
                    have n11_ : Aside0 (gb271 ≠ gb314) := ⟨h11_⟩
                    have n12_ : Aside0 (gb314 ≠ gb271) := ⟨h12_⟩
                    have n13_ : Aside0 (gb286 ≠ gb314) := ⟨h13_⟩
                    have n14_ : Aside0 (gb314 ≠ gb286) := ⟨h14_⟩
                    have n15_ : Aside0 (gb295 ≠ gb314) := ⟨h15_⟩
                    have n16_ : Aside0 (gb314 ≠ gb295) := ⟨h16_⟩
                    have n17_ : Aside0 (gb304 ≠ gb314) := ⟨h17_⟩
                    have n18_ : Aside0 (gb314 ≠ gb304) := ⟨h18_⟩
                    have n19_ : Aside0 (Below w.heap.size w w132) := ⟨h19_⟩
                    clear HO275
                    clear HO281
                    clear HO290
                    clear BK271
                    clear BK286
                    clear BK295
                    clear BK304
                    clear HB
                    clear h0_ h1_ h2_ h3_ h4_ h5_ h6_ h7_ h8_ h9_ h10_ h11_ h12_ h13_ h14_ h15_ h16_ h17_ h18_ h19_
                    have HO275 := n0_
                    have HO281 := n1_
                    have HO290 := n2_
                    have HO309 := n3_
                    have BK271 := n4_
                    have BK286 := n5_
                    have BK295 := n6_
                    have BK304 := n7_
                    have BK314 := n8_
                    have GW314 := n9_
                    have GE314 := n10_
                    have NB271_314 := n11_
                    have NB314_271 := n12_
                    have NB286_314 := n13_
                    have NB314_286 := n14_
                    have NB295_314 := n15_
                    have NB314_295 := n16_
                    have NB304_314 := n17_
                    have NB314_304 := n18_
                    have HB := n19_
                    clear n0_ n1_ n2_ n3_ n4_ n5_ n6_ n7_ n8_ n9_ n10_ n11_ n12_ n13_ n14_ n15_ n16_ n17_ n18_ n19_
                    have hHeld : w132.cell? ad277 = some (.int .u64 (rd t273 0)) ∧ w132.cell? ⟨ad277.block, ad277.off + 1, none⟩ = some (.int .u64 (rd t273 1)) := hS_
                    refine norm_ (a' := ?_) ?_ ?_
                    rotate_left
                    · simp only [putAll, Act.put, List.setIfInBounds_toArray, List.set_cons_zero, List.set_cons_succ]
                      rfl
                    refine one_ (i := 13) (N := none) #[true, true, true, true, true, true, true, true, true, true, true, true, true, true, false] rfl rfl (one_of HT_.out (by kernel_rfl)) (by decide) (fun K hK => ?_)
                    have hs133 : w132.cell? ⟨gb314, 0, none⟩ = some (.int .i64 0) := (blk_cell BK314.out 0).trans rfl
                    have hfs133 := blk_frozen BK314.out 0
                    have hns133_0 := NB271_314.out
                    have hns133_1 := NB286_314.out
                    have hns133_2 := NB295_314.out
                    have hns133_3 := NB304_314.out
                    have hms133_0 := NB314_271.out
                    have hms133_1 := NB314_286.out
                    have hms133_2 := NB314_295.out
                    have hms133_3 := NB314_304.out
                    have hs134 : w132.cell? ⟨gb314, 1, none⟩ = some (.int .i64 0) := (blk_cell BK314.out 1).trans rfl
                    have hfs134 := blk_frozen BK314.out 1
                    have hns134_0 := NB271_314.out
                    have hns134_1 := NB286_314.out
                    have hns134_2 := NB295_314.out
                    have hns134_3 := NB304_314.out
                    have hms134_0 := NB314_271.out
                    have hms134_1 := NB314_286.out
                    have hms134_2 := NB314_295.out
                    have hms134_3 := NB314_304.out
                    have hs135 : w132.cell? ⟨gb314, 2, none⟩ = some (.int .u64 0) := (blk_cell BK314.out 2).trans rfl
                    have hfs135 := blk_frozen BK314.out 2
                    have hns135_0 := NB271_314.out
                    have hns135_1 := NB286_314.out
                    have hns135_2 := NB295_314.out
                    have hns135_3 := NB304_314.out
                    have hms135_0 := NB314_271.out
                    have hms135_1 := NB314_286.out
                    have hms135_2 := NB314_295.out
                    have hms135_3 := NB314_304.out
                    refine skip_ (w1 := ?_) (by rfl) rfl ?_ ?_
                    rotate_left
                    · go_simp
                      rfl
                    have FAR_ : ad277.block ≠ gb314 := Kd.own_blk (Kd.R_ne HO275.out BK314.out (by decide))
                    refine hK.out _ _ ⟨by rw [cell_far (p := ⟨gb314, _, none⟩) FAR_, cell_far (p := ⟨gb314, _, none⟩) FAR_, cell_far (p := ⟨gb314, _, none⟩) FAR_]; exact hHeld.1, by rw [cell_far (a := ⟨ad277.block, _, none⟩) (p := ⟨gb314, _, none⟩) FAR_, cell_far (a := ⟨ad277.block, _, none⟩) (p := ⟨gb314, _, none⟩) FAR_, cell_far (a := ⟨ad277.block, _, none⟩) (p := ⟨gb314, _, none⟩) FAR_]; exact hHeld.2⟩ (fun hHeld => ?_)
                    clear hK K
                    refine pure_ (i := 14) (N := some 16) (v := ?_) (a' := ?_) #[true, true, true, true, true, true, true, true, true, true, true, true, true, true, true] rfl rfl (any_of HT_.out (by kernel_rfl)) (fun _ _ _ h => h) (Or.inl ⟨by rfl, ?_⟩) ?_ ?_
                    rotate_left
                    · intro w'
                      go_simp
                      with_reducible rfl
                    rotate_left
                    · simp only [Act.put, List.setIfInBounds_toArray, List.set_cons_zero, List.set_cons_succ, i64_w, i32_w]
                      rfl
                    refine done_ (done_of HT_.out (by kernel_rfl)) ?_
                    try go_wp2
                    go_ret
                    exact ⟨by first | rfl | (simp [errW_none, errW_some] <;> rfl) | (simp only [← hji8]; first | rfl | (simp [errW_none, errW_some] <;> rfl)) | (simp [*, errW_none, errW_some] <;> rfl), by repeat (first | (with_reducible first | exact HB.out | apply below_alloc | apply pw_below_drewN | apply below_drew1 | refine below_set ?_ GE271.out | refine below_set ?_ GE286.out | refine below_set ?_ GE295.out | refine below_set ?_ GE304.out | refine below_set ?_ GE314.out) | exact HB.out)⟩
                  · replace c96 := Bool.eq_false_iff.mpr c96
                    subst c96
                    have H1 : (some t313) = some r := by rw [if_neg (show ¬ (false = true) by decide)] at H; exact H
                    clear H
                    have H := H1
                    clear H1
                    obtain rfl := Option.some.inj H
                    go_enter Tryd.func6, Tryd.ntmps6
                    try go_wp2_with (first | ((with_reducible refine gate_dst (N := 2) rfl ?_); (try (refine gate_guard (by rfl) ?_; dsimp only)); refine box_event ?hg (N := 2) ?hd (cs := #[.int .i64 a0_0, .int .i64 a0_1, .int .u64 a0_2]) (t := 26) ?hr ?_; (case hd => rfl); (case hg => rfl); (case hr => first | (go_simp; done) | (go_simp; rfl)); intro gb271 hg w136 hbox hb; have n0_ := Aside0.mk (below_step (by repeat (first | (with_reducible first | exact HB.out | apply below_alloc | apply pw_below_drewN | apply below_drew1) | exact HB.out)) hb); have n1_ := Aside0.mk (hbox); have n2_ := Aside0.mk ((by rw [hg]; exact (below_size (by repeat (first | (with_reducible first | exact HB.out | apply below_alloc | apply pw_below_drewN | apply below_drew1) | exact HB.out))) : w.heap.size ≤ gb271)); have n3_ := Aside0.mk ((by rw [hg]; exact (below_size (by repeat (first | (with_reducible first | exact HB.out | apply below_alloc | apply pw_below_drewN | apply below_drew1) | exact HB.out))) : w.heap.size ≤ gb271)); clear HB; have HB := n0_; have BK271 := n1_; have GW271 := n2_; have GE271 := n3_; clear n0_ n1_ n2_ n3_; clear hb hbox hg) | ((with_reducible refine gate_callee (f := 8) rfl ?_); refine goesL_ (some 17) rfl rfl Tryd.func8 (by kernel_rfl) rfl #[] rfl (by (try simp only [List.map_toArray, List.map_cons, List.map_nil]); first | done | rfl | (simp only [List.length_drop, List.length_take]; rfl)) ?_; (with_reducible refine (lockfastlaw08_awake.calls k  true _ A3.out).mono ?_); rintro e w137 ⟨rfl, hb⟩; refine ⟨_, rfl, ?_⟩; have n0_ := Aside0.mk (blk_below (g := gb271) (o := .cells #[.int .i64 a0_0, .int .i64 a0_1, .int .u64 a0_2] 26 (0, 0)) (by (with_reducible repeat (first | refine blk_drewN ?_ _ | refine blk_drew ?_ | refine blk_alloc ?_ _)); exact BK271.out) hb); have n1_ := Aside0.mk (below_step (by repeat (first | (with_reducible first | exact HB.out | apply below_alloc | apply pw_below_drewN | apply below_drew1 | refine below_set ?_ GE271.out) | exact HB.out)) hb); clear BK271; clear HB; have BK271 := n0_; have HB := n1_; clear n0_ n1_; (try clear hb); (try clear hb2); (try clear hk); (try clear hi); have hcz138_0 : w137.cell? ⟨gb271, 0, none⟩ = some (.int .i64 a0_0) := (blk_cell BK271.out 0).trans rfl; have hcz138_1 : w137.cell? ⟨gb271, 1, none⟩ = some (.int .i64 a0_1) := (blk_cell BK271.out 1).trans rfl; have hcz138_2 : w137.cell? ⟨gb271, 2, none⟩ = some (.int .u64 a0_2) := (blk_cell BK271.out 2).trans rfl; have hfz138_0 := blk_frozen BK271.out 0; have hfz138_1 := blk_frozen BK271.out 1; have hfz138_2 := blk_frozen BK271.out 2) | ((with_reducible refine gate_callee (f := 10) rfl ?_); refine goesL_ (some 20) rfl rfl Tryd.func10 (by kernel_rfl) rfl #[.agg #[.int .i64 a0_0, .int .i64 a0_1, .int .u64 a0_2]] rfl (by (try simp only [List.map_toArray, List.map_cons, List.map_nil]); first | done | rfl | (simp only [List.length_drop, List.length_take]; rfl)) ?_; (with_reducible refine (oid_Encode.calls a0_0 a0_1 a0_2 t273 t276 _ A4.out).mono ?_); rintro e w139 ⟨v274, rfl, ho0, hb⟩; refine ⟨_, rfl, ?_⟩; have n0_ := Aside0.mk (Kd.R_lower ho0 (below_size (by repeat (first | (with_reducible first | exact HB.out | apply below_alloc | apply pw_below_drewN | apply below_drew1 | refine below_set ?_ GE271.out) | exact HB.out)))); have n1_ := Aside0.mk (blk_below (g := gb271) (o := .cells #[.int .i64 a0_0, .int .i64 a0_1, .int .u64 a0_2] 26 (0, 0)) (by (with_reducible repeat (first | refine blk_drewN ?_ _ | refine blk_drew ?_ | refine blk_alloc ?_ _)); exact BK271.out) hb); have n2_ := Aside0.mk (below_step (by repeat (first | (with_reducible first | exact HB.out | apply below_alloc | apply pw_below_drewN | apply below_drew1 | refine below_set ?_ GE271.out) | exact HB.out)) hb); clear BK271; clear HB; have HO275 := n0_; have BK271 := n1_; have HB := n2_; clear n0_ n1_ n2_; (try clear hb); (try clear hb2); (try clear hk); (try clear hi); (try clear ho0); obtain ⟨Ao140, co140, eo140⟩ := Kd.R_slice HO275.out; subst eo140; have p277 : 0 ≤ (0 : Int) := (by omega); have q277 : 0 < (t273.length : Int) := of_decide_eq_true (by first | (with_reducible assumption) | assumption); obtain ⟨ad277, e277, hx277_0⟩ := Kd.at_int (Kd.R_reads' HO275.out).2.2 0 p277 q277; cases e277; have qi277 : (0 < t273.length) = True := eq_true (by omega); (try rw [show ((0 : Int)).toNat = 0 from rfl] at hx277_0); (try rw [Addr.add_zero'] at hx277_0); replace p277 := eq_true p277; replace q277 := eq_true q277; have p278 : 0 ≤ (1 : Int) := (by omega); have q278 : 1 < (t273.length : Int) := of_decide_eq_true (by first | (with_reducible assumption) | assumption); obtain ⟨ad278, e278, hx278_0⟩ := Kd.at_int (Kd.R_reads' HO275.out).2.2 1 p278 q278; obtain rfl : ad277 = ad278 := (by injection e278); (try simp only [show (1 : Int).toNat = 1 from rfl, Nat.reduceMul, Nat.reduceEqDiff, Go.Addr.add, ↓reduceIte] at hx278_0); have qi278 : (1 < t273.length) = True := eq_true (by omega); (try rw [show ((1 : Int)).toNat = 1 from rfl] at hx278_0); replace p278 := eq_true p278; replace q278 := eq_true q278) | ((with_reducible refine gate_dst (N := 47) rfl ?_); (try (refine gate_guard (by rfl) ?_; dsimp only)); refine Kd.R_lit (Kd.int .u64) _ 22 ?hg (N := 47) ?hd (xs := ([Go.bits .xor .u64 (rd t273 0) (ji8), rd t273 1] : List Int)) (inner := [.int .u64 (Go.bits .xor .u64 (rd t273 0) (ji8)), .int .u64 (rd t273 1)]) (ok := fun _ => True) (okp := fun _ => True) ?hr ?hp (fun _ hk => hk) trivial (Below.refl _ _) (Nat.le_refl _) (by simp) ?_; (case hd => rfl); (case hg => rfl); (case hr => first | (go_simp; done) | (go_simp; rfl)); (case hp => exact (Reps.one (show Kd.M (Kd.int .u64) _ _ _ (Go.bits .xor .u64 (rd t273 0) (ji8)) [.int .u64 (Go.bits .xor .u64 (rd t273 0) (ji8))] from rfl) (Reps.one (show Kd.M (Kd.int .u64) _ _ _ (rd t273 1) [.int .u64 (rd t273 1)] from rfl) (Reps.none _ _)))); intro v280 w141 ho142 hb hg_ hnew_; clear hg_ hnew_; (first | rw [← Ny279.out] at ho142 | (simp only [Int.reduceToNat] at ho142; rw [← Ny279.out] at ho142)); have n0_ := Aside0.mk (Kd.R_elder' (by (with_reducible repeat (first | apply Kd.R_alloc | apply Kd.R_drewN | apply Kd.R_drew)); exact HO275.out) (Kd.R_base ho142) hb); have n1_ := Aside0.mk (Kd.R_lower (Kd.R_new' ho142 (Kd.R_lt (by (with_reducible repeat (first | apply Kd.R_alloc | apply Kd.R_drewN | apply Kd.R_drew)); exact HO275.out))) (below_size (by repeat (first | (with_reducible first | exact HB.out | apply below_alloc | apply pw_below_drewN | apply below_drew1 | refine below_set ?_ GE271.out) | exact HB.out)))); have n2_ := Aside0.mk (blk_below (g := gb271) (o := .cells #[.int .i64 a0_0, .int .i64 a0_1, .int .u64 a0_2] 26 (0, 0)) (by (with_reducible repeat (first | refine blk_drewN ?_ _ | refine blk_drew ?_ | refine blk_alloc ?_ _)); exact BK271.out) hb); have n3_ := Aside0.mk (below_step (by repeat (first | (with_reducible first | exact HB.out | apply below_alloc | apply pw_below_drewN | apply below_drew1 | refine below_set ?_ GE271.out) | exact HB.out)) hb); clear HO275; clear BK271; clear HB; have HO275 := n0_; have HO281 := n1_; have BK271 := n2_; have HB := n3_; clear n0_ n1_ n2_ n3_; clear hb ho142; obtain ⟨Ao143, co143, eo143⟩ := Kd.R_slice HO281.out; subst eo143) | ((with_reducible refine gate_callee (f := 17) rfl ?_); refine goesL_ (some 48) rfl rfl Tryd.func17 (by kernel_rfl) rfl #[.slice Ao143 y279.length co143] rfl (by (try simp only [List.map_toArray, List.map_cons, List.map_nil]); first | done | rfl | (simp only [List.length_drop, List.length_take]; rfl)) ?_; (with_reducible refine (oid_Decode.calls _ _ y279 t282 t283 t284 false _ ?side1 ?side2 A10.out).mono ?_); (case side1 => repeat (first | exact (Kd.R_reads' HO281.out).2.2 | (with_reducible refine Kd.C_alloc ?_ _) | (with_reducible refine Kd.C_drewN ?_ _) | (with_reducible refine Kd.C_drew ?_))); (case side2 => exact (Kd.R_reads' HO281.out).2.1); rintro e w144 ⟨rfl, hb⟩; refine ⟨_, rfl, ?_⟩; have n0_ := Aside0.mk (Kd.R_below (by (with_reducible repeat (first | apply Kd.R_alloc | apply Kd.R_drewN | apply Kd.R_drew)); exact HO275.out) hb); have n1_ := Aside0.mk (Kd.R_below (by (with_reducible repeat (first | apply Kd.R_alloc | apply Kd.R_drewN | apply Kd.R_drew)); exact HO281.out) hb); have n2_ := Aside0.mk (blk_below (g := gb271) (o := .cells #[.int .i64 a0_0, .int .i64 a0_1, .int .u64 a0_2] 26 (0, 0)) (by (with_reducible repeat (first | refine blk_drewN ?_ _ | refine blk_drew ?_ | refine blk_alloc ?_ _)); exact BK271.out) hb); have n3_ := Aside0.mk (below_step (by repeat (first | (with_reducible first | exact HB.out | apply below_alloc | apply pw_below_drewN | apply below_drew1 | refine below_set ?_ GE271.out) | exact HB.out)) hb); clear HO275; clear HO281; clear BK271; clear HB; have HO275 := n0_; have HO281 := n1_; have BK271 := n2_; have HB := n3_; clear n0_ n1_ n2_ n3_; (try clear hb); (try clear hb2); (try clear hk); (try clear hi)) | ((with_reducible refine gate_dst (N := 9) rfl ?_); (try (refine gate_guard (by rfl) ?_; dsimp only)); refine box_event ?hg (N := 9) ?hd (cs := #[.int .i64 0, .int .i64 0, .int .u64 0]) (t := 26) ?hr ?_; (case hd => rfl); (case hg => rfl); (case hr => first | (go_simp; done) | (go_simp; rfl)); intro gb286 hg w145 hbox hb; have n0_ := Aside0.mk (Kd.R_below (by (with_reducible repeat (first | apply Kd.R_alloc | apply Kd.R_drewN | apply Kd.R_drew)); exact HO275.out) hb); have n1_ := Aside0.mk (Kd.R_below (by (with_reducible repeat (first | apply Kd.R_alloc | apply Kd.R_drewN | apply Kd.R_drew)); exact HO281.out) hb); have n2_ := Aside0.mk (blk_below (g := gb271) (o := .cells #[.int .i64 a0_0, .int .i64 a0_1, .int .u64 a0_2] 26 (0, 0)) (by (with_reducible repeat (first | refine blk_drewN ?_ _ | refine blk_drew ?_ | refine blk_alloc ?_ _)); exact BK271.out) hb); have n3_ := Aside0.mk (below_step (by repeat (first | (with_reducible first | exact HB.out | apply below_alloc | apply pw_below_drewN | apply below_drew1 | refine below_set ?_ GE271.out) | exact HB.out)) hb); have n4_ := Aside0.mk (hbox); have n5_ := Aside0.mk ((by rw [hg]; exact (below_size (by repeat (first | (with_reducible first | exact HB.out | apply below_alloc | apply pw_below_drewN | apply below_drew1 | refine below_set ?_ GE271.out) | exact HB.out))) : w.heap.size ≤ gb286)); have n6_ := Aside0.mk ((by rw [hg]; exact (below_size (by repeat (first | (with_reducible first | exact HB.out | apply below_alloc | apply pw_below_drewN | apply below_drew1 | refine below_set ?_ GE271.out) | exact HB.out))) : w.heap.size ≤ gb286)); have n7_ := Aside0.mk ((by rw [hg]; exact Nat.ne_of_lt (blk_lt (g := gb271) (o := .cells #[.int .i64 a0_0, .int .i64 a0_1, .int .u64 a0_2] 26 (0, 0)) (by (with_reducible repeat (first | refine blk_drewN ?_ _ | refine blk_drew ?_ | refine blk_alloc ?_ _)); exact BK271.out)) : gb271 ≠ gb286)); have n8_ := Aside0.mk ((by rw [hg]; exact Nat.ne_of_gt (blk_lt (g := gb271) (o := .cells #[.int .i64 a0_0, .int .i64 a0_1, .int .u64 a0_2] 26 (0, 0)) (by (with_reducible repeat (first | refine blk_drewN ?_ _ | refine blk_drew ?_ | refine blk_alloc ?_ _)); exact BK271.out)) : gb286 ≠ gb271)); clear HO275; clear HO281; clear BK271; clear HB; have HO275 := n0_; have HO281 := n1_; have BK271 := n2_; have HB := n3_; have BK286 := n4_; have GW286 := n5_; have GE286 := n6_; have NB271_286 := n7_; have NB286_271 := n8_; clear n0_ n1_ n2_ n3_ n4_ n5_ n6_ n7_ n8_; clear hb hbox hg; have hnb146 := NB286_271.out; have hnc146 := NB271_286.out; have hcz147_0 : w145.cell? ⟨gb286, 0, none⟩ = some (.int .i64 0) := (blk_cell BK286.out 0).trans rfl; have hcz147_1 : w145.cell? ⟨gb286, 1, none⟩ = some (.int .i64 0) := (blk_cell BK286.out 1).trans rfl; have hcz147_2 : w145.cell? ⟨gb286, 2, none⟩ = some (.int .u64 0) := (blk_cell BK286.out 2).trans rfl; have hfz147_0 := blk_frozen BK286.out 0; have hfz147_1 := blk_frozen BK286.out 1; have hfz147_2 := blk_frozen BK286.out 2; have p287 : 0 ≤ (0 : Int) := (by omega); have q287 : 0 < (t273.length : Int) := of_decide_eq_true (by first | (with_reducible assumption) | assumption); obtain ⟨ad287, e287, hx287_0⟩ := Kd.at_int (Kd.R_reads' HO275.out).2.2 0 p287 q287; obtain rfl : ad277 = ad287 := (by injection e287); have qi287 : (0 < t273.length) = True := eq_true (by omega); (try rw [show ((0 : Int)).toNat = 0 from rfl] at hx287_0); (try rw [Addr.add_zero'] at hx287_0); have hn287_0 : ad277.block ≠ gb286 := Kd.own_blk (Kd.R_ne HO275.out BK286.out (by decide)); have hn287_1 : ad277.block ≠ gb286 := Kd.own_blk (Kd.R_ne HO275.out BK286.out (by decide)); have hn287_2 : ad277.block ≠ gb286 := Kd.own_blk (Kd.R_ne HO275.out BK286.out (by decide)); replace hx287_0 := (cell_far (p := ⟨gb286, 0, none⟩) (by first | (rw [add_block]; exact hn287_0) | (show (Addr.add _ _).block ≠ _; rw [add_block]; exact hn287_0) | exact hn287_0) (.int .i64 t282)).trans hx287_0; replace hx287_0 := (cell_far (p := ⟨gb286, 1, none⟩) (by first | (rw [add_block]; exact hn287_1) | (show (Addr.add _ _).block ≠ _; rw [add_block]; exact hn287_1) | exact hn287_1) (.int .i64 t283)).trans hx287_0; replace hx287_0 := (cell_far (p := ⟨gb286, 2, none⟩) (by first | (rw [add_block]; exact hn287_2) | (show (Addr.add _ _).block ≠ _; rw [add_block]; exact hn287_2) | exact hn287_2) (.int .u64 t284)).trans hx287_0; clear hn287_0; clear hn287_1; clear hn287_2; replace p287 := eq_true p287; replace q287 := eq_true q287) | ((with_reducible refine gate_dst (N := 55) rfl ?_); (try (refine gate_guard (by rfl) ?_; dsimp only)); refine Kd.R_lit (Kd.int .u64) _ 22 ?hg (N := 55) ?hd (xs := ([rd t273 0, 0] : List Int)) (inner := [.int .u64 (rd t273 0), .int .u64 0]) (ok := fun _ => True) (okp := fun _ => True) ?hr ?hp (fun _ hk => hk) trivial (Below.refl _ _) (Nat.le_refl _) (by simp) ?_; (case hd => rfl); (case hg => rfl); (case hr => first | (go_simp; done) | (go_simp; rfl)); (case hp => exact (Reps.one (show Kd.M (Kd.int .u64) _ _ _ (rd t273 0) [.int .u64 (rd t273 0)] from rfl) (Reps.one (show Kd.M (Kd.int .u64) _ _ _ 0 [.int .u64 0] from rfl) (Reps.none _ _)))); intro v289 w148 ho149 hb hg_ hnew_; clear hg_ hnew_; (first | rw [← Ny288.out] at ho149 | (simp only [Int.reduceToNat] at ho149; rw [← Ny288.out] at ho149)); have n0_ := Aside0.mk (Kd.R_elder' (by (with_reducible repeat (first | apply Kd.R_alloc | apply Kd.R_drewN | apply Kd.R_drew)); exact (Kd.R_mono (Kd.R_far (p := ⟨gb286, 2, none⟩) (Kd.R_far (p := ⟨gb286, 1, none⟩) (Kd.R_far (p := ⟨gb286, 0, none⟩) (Kd.R_types HO275.out BK286.out (by decide)) (fun _ hk => hk.2) (.int .i64 t282)) (fun _ hk => hk.2) (.int .i64 t283)) (fun _ hk => hk.2) (.int .u64 t284)) (fun _ h_ => h_.1))) (Kd.R_base ho149) hb); have n1_ := Aside0.mk (Kd.R_elder' (by (with_reducible repeat (first | apply Kd.R_alloc | apply Kd.R_drewN | apply Kd.R_drew)); exact (Kd.R_mono (Kd.R_far (p := ⟨gb286, 2, none⟩) (Kd.R_far (p := ⟨gb286, 1, none⟩) (Kd.R_far (p := ⟨gb286, 0, none⟩) (Kd.R_types HO281.out BK286.out (by decide)) (fun _ hk => hk.2) (.int .i64 t282)) (fun _ hk => hk.2) (.int .i64 t283)) (fun _ hk => hk.2) (.int .u64 t284)) (fun _ h_ => h_.1))) (Kd.R_base ho149) hb); have n2_ := Aside0.mk (Kd.R_lower (Kd.R_new' (Kd.R_new' ho149 (Kd.R_lt (by (with_reducible repeat (first | apply Kd.R_alloc | apply Kd.R_drewN | apply Kd.R_drew)); exact (Kd.R_mono (Kd.R_far (p := ⟨gb286, 2, none⟩) (Kd.R_far (p := ⟨gb286, 1, none⟩) (Kd.R_far (p := ⟨gb286, 0, none⟩) (Kd.R_types HO275.out BK286.out (by decide)) (fun _ hk => hk.2) (.int .i64 t282)) (fun _ hk => hk.2) (.int .i64 t283)) (fun _ hk => hk.2) (.int .u64 t284)) (fun _ h_ => h_.1))))) (Kd.R_lt (by (with_reducible repeat (first | apply Kd.R_alloc | apply Kd.R_drewN | apply Kd.R_drew)); exact (Kd.R_mono (Kd.R_far (p := ⟨gb286, 2, none⟩) (Kd.R_far (p := ⟨gb286, 1, none⟩) (Kd.R_far (p := ⟨gb286, 0, none⟩) (Kd.R_types HO281.out BK286.out (by decide)) (fun _ hk => hk.2) (.int .i64 t282)) (fun _ hk => hk.2) (.int .i64 t283)) (fun _ hk => hk.2) (.int .u64 t284)) (fun _ h_ => h_.1))))) (below_size (by repeat (first | (with_reducible first | exact HB.out | apply below_alloc | apply pw_below_drewN | apply below_drew1 | refine below_set ?_ GE271.out | refine below_set ?_ GE286.out) | exact HB.out)))); have n3_ := Aside0.mk (blk_below (g := gb271) (o := .cells #[.int .i64 a0_0, .int .i64 a0_1, .int .u64 a0_2] 26 (0, 0)) (by (with_reducible repeat (first | refine blk_drewN ?_ _ | refine blk_drew ?_ | refine blk_alloc ?_ _)); refine blk_far ?_ NB271_286.out _; (with_reducible repeat (first | refine blk_drewN ?_ _ | refine blk_drew ?_ | refine blk_alloc ?_ _)); refine blk_far ?_ NB271_286.out _; (with_reducible repeat (first | refine blk_drewN ?_ _ | refine blk_drew ?_ | refine blk_alloc ?_ _)); refine blk_far ?_ NB271_286.out _; (with_reducible repeat (first | refine blk_drewN ?_ _ | refine blk_drew ?_ | refine blk_alloc ?_ _)); exact BK271.out) hb); have n4_ := Aside0.mk (blk_below (g := gb286) (o := .cells #[.int .i64 t282, .int .i64 t283, .int .u64 t284] 26 (0, 0)) (by (with_reducible repeat (first | refine blk_drewN ?_ _ | refine blk_drew ?_ | refine blk_alloc ?_ _)); refine blk_put (cs := #[.int .i64 t282, .int .i64 t283, .int .u64 0]) ?_ 2 _ rfl; (with_reducible repeat (first | refine blk_drewN ?_ _ | refine blk_drew ?_ | refine blk_alloc ?_ _)); refine blk_put (cs := #[.int .i64 t282, .int .i64 0, .int .u64 0]) ?_ 1 _ rfl; (with_reducible repeat (first | refine blk_drewN ?_ _ | refine blk_drew ?_ | refine blk_alloc ?_ _)); refine blk_put (cs := #[.int .i64 0, .int .i64 0, .int .u64 0]) ?_ 0 _ rfl; (with_reducible repeat (first | refine blk_drewN ?_ _ | refine blk_drew ?_ | refine blk_alloc ?_ _)); exact BK286.out) hb); have n5_ := Aside0.mk (below_step (by repeat (first | (with_reducible first | exact HB.out | apply below_alloc | apply pw_below_drewN | apply below_drew1 | refine below_set ?_ GE271.out | refine below_set ?_ GE286.out) | exact HB.out)) hb); clear HO275; clear HO281; clear BK271; clear BK286; clear HB; have HO275 := n0_; have HO281 := n1_; have HO290 := n2_; have BK271 := n3_; have BK286 := n4_; have HB := n5_; clear n0_ n1_ n2_ n3_ n4_ n5_; clear hb ho149; obtain ⟨Ao150, co150, eo150⟩ := Kd.R_slice HO290.out; subst eo150) | ((with_reducible refine gate_callee (f := 17) rfl ?_); refine goesL_ (some 56) rfl rfl Tryd.func17 (by kernel_rfl) rfl #[.slice Ao150 y288.length co150] rfl (by (try simp only [List.map_toArray, List.map_cons, List.map_nil]); first | done | rfl | (simp only [List.length_drop, List.length_take]; rfl)) ?_; (with_reducible refine (oid_Decode.calls _ _ y288 t291 t292 t293 false _ ?side1 ?side2 A11.out).mono ?_); (case side1 => repeat (first | exact (Kd.R_reads' HO290.out).2.2 | (with_reducible refine Kd.C_alloc ?_ _) | (with_reducible refine Kd.C_drewN ?_ _) | (with_reducible refine Kd.C_drew ?_))); (case side2 => exact (Kd.R_reads' HO290.out).2.1); rintro e w151 ⟨rfl, hb⟩; refine ⟨_, rfl, ?_⟩; have n0_ := Aside0.mk (Kd.R_below (by (with_reducible repeat (first | apply Kd.R_alloc | apply Kd.R_drewN | apply Kd.R_drew)); exact HO275.out) hb); have n1_ := Aside0.mk (Kd.R_below (by (with_reducible repeat (first | apply Kd.R_alloc | apply Kd.R_drewN | apply Kd.R_drew)); exact HO281.out) hb); have n2_ := Aside0.mk (Kd.R_below (by (with_reducible repeat (first | apply Kd.R_alloc | apply Kd.R_drewN | apply Kd.R_drew)); exact HO290.out) hb); have n3_ := Aside0.mk (blk_below (g := gb271) (o := .cells #[.int .i64 a0_0, .int .i64 a0_1, .int .u64 a0_2] 26 (0, 0)) (by (with_reducible repeat (first | refine blk_drewN ?_ _ | refine blk_drew ?_ | refine blk_alloc ?_ _)); exact BK271.out) hb); have n4_ := Aside0.mk (blk_below (g := gb286) (o := .cells #[.int .i64 t282, .int .i64 t283, .int .u64 t284] 26 (0, 0)) (by (with_reducible repeat (first | refine blk_drewN ?_ _ | refine blk_drew ?_ | refine blk_alloc ?_ _)); exact BK286.out) hb); have n5_ := Aside0.mk (below_step (by repeat (first | (with_reducible first | exact HB.out | apply below_alloc | apply pw_below_drewN | apply below_drew1 | refine below_set ?_ GE271.out | refine below_set ?_ GE286.out) | exact HB.out)) hb); clear HO275; clear HO281; clear HO290; clear BK271; clear BK286; clear HB; have HO275 := n0_; have HO281 := n1_; have HO290 := n2_; have BK271 := n3_; have BK286 := n4_; have HB := n5_; clear n0_ n1_ n2_ n3_ n4_ n5_; (try clear hb); (try clear hb2); (try clear hk); (try clear hi)) | ((with_reducible refine gate_dst (N := 11) rfl ?_); (try (refine gate_guard (by rfl) ?_; dsimp only)); refine box_event ?hg (N := 11) ?hd (cs := #[.int .i64 0, .int .i64 0, .int .u64 0]) (t := 26) ?hr ?_; (case hd => rfl); (case hg => rfl); (case hr => first | (go_simp; done) | (go_simp; rfl)); intro gb295 hg w152 hbox hb; have n0_ := Aside0.mk (Kd.R_below (by (with_reducible repeat (first | apply Kd.R_alloc | apply Kd.R_drewN | apply Kd.R_drew)); exact HO275.out) hb); have n1_ := Aside0.mk (Kd.R_below (by (with_reducible repeat (first | apply Kd.R_alloc | apply Kd.R_drewN | apply Kd.R_drew)); exact HO281.out) hb); have n2_ := Aside0.mk (Kd.R_below (by (with_reducible repeat (first | apply Kd.R_alloc | apply Kd.R_drewN | apply Kd.R_drew)); exact HO290.out) hb); have n3_ := Aside0.mk (blk_below (g := gb271) (o := .cells #[.int .i64 a0_0, .int .i64 a0_1, .int .u64 a0_2] 26 (0, 0)) (by (with_reducible repeat (first | refine blk_drewN ?_ _ | refine blk_drew ?_ | refine blk_alloc ?_ _)); exact BK271.out) hb); have n4_ := Aside0.mk (blk_below (g := gb286) (o := .cells #[.int .i64 t282, .int .i64 t283, .int .u64 t284] 26 (0, 0)) (by (with_reducible repeat (first | refine blk_drewN ?_ _ | refine blk_drew ?_ | refine blk_alloc ?_ _)); exact BK286.out) hb); have n5_ := Aside0.mk (below_step (by repeat (first | (with_reducible first | exact HB.out | apply below_alloc | apply pw_below_drewN | apply below_drew1 | refine below_set ?_ GE271.out | refine below_set ?_ GE286.out) | exact HB.out)) hb); have n6_ := Aside0.mk (hbox); have n7_ := Aside0.mk ((by rw [hg]; exact (below_size (by repeat (first | (with_reducible first | exact HB.out | apply below_alloc | apply pw_below_drewN | apply below_drew1 | refine below_set ?_ GE271.out | refine below_set ?_ GE286.out) | exact HB.out))) : w.heap.size ≤ gb295)); have n8_ := Aside0.mk ((by rw [hg]; exact (below_size (by repeat (first | (with_reducible first | exact HB.out | apply below_alloc | apply pw_below_drewN | apply below_drew1 | refine below_set ?_ GE271.out | refine below_set ?_ GE286.out) | exact HB.out))) : w.heap.size ≤ gb295)); have n9_ := Aside0.mk ((by rw [hg]; exact Nat.ne_of_lt (blk_lt (g := gb271) (o := .cells #[.int .i64 a0_0, .int .i64 a0_1, .int .u64 a0_2] 26 (0, 0)) (by (with_reducible repeat (first | refine blk_drewN ?_ _ | refine blk_drew ?_ | refine blk_alloc ?_ _)); exact BK271.out)) : gb271 ≠ gb295)); have n10_ := Aside0.mk ((by rw [hg]; exact Nat.ne_of_gt (blk_lt (g := gb271) (o := .cells #[.int .i64 a0_0, .int .i64 a0_1, .int .u64 a0_2] 26 (0, 0)) (by (with_reducible repeat (first | refine blk_drewN ?_ _ | refine blk_drew ?_ | refine blk_alloc ?_ _)); exact BK271.out)) : gb295 ≠ gb271)); have n11_ := Aside0.mk ((by rw [hg]; exact Nat.ne_of_lt (blk_lt (g := gb286) (o := .cells #[.int .i64 t282, .int .i64 t283, .int .u64 t284] 26 (0, 0)) (by (with_reducible repeat (first | refine blk_drewN ?_ _ | refine blk_drew ?_ | refine blk_alloc ?_ _)); exact BK286.out)) : gb286 ≠ gb295)); have n12_ := Aside0.mk ((by rw [hg]; exact Nat.ne_of_gt (blk_lt (g := gb286) (o := .cells #[.int .i64 t282, .int .i64 t283, .int .u64 t284] 26 (0, 0)) (by (with_reducible repeat (first | refine blk_drewN ?_ _ | refine blk_drew ?_ | refine blk_alloc ?_ _)); exact BK286.out)) : gb295 ≠ gb286)); clear HO275; clear HO281; clear HO290; clear BK271; clear BK286; clear HB; have HO275 := n0_; have HO281 := n1_; have HO290 := n2_; have BK271 := n3_; have BK286 := n4_; have HB := n5_; have BK295 := n6_; have GW295 := n7_; have GE295 := n8_; have NB271_295 := n9_; have NB295_271 := n10_; have NB286_295 := n11_; have NB295_286 := n12_; clear n0_ n1_ n2_ n3_ n4_ n5_ n6_ n7_ n8_ n9_ n10_ n11_ n12_; clear hb hbox hg; have hnb153 := NB295_271.out; have hnc153 := NB271_295.out; have hnb154 := NB295_286.out; have hnc154 := NB286_295.out; have hcz155_0 : w152.cell? ⟨gb295, 0, none⟩ = some (.int .i64 0) := (blk_cell BK295.out 0).trans rfl; have hcz155_1 : w152.cell? ⟨gb295, 1, none⟩ = some (.int .i64 0) := (blk_cell BK295.out 1).trans rfl; have hcz155_2 : w152.cell? ⟨gb295, 2, none⟩ = some (.int .u64 0) := (blk_cell BK295.out 2).trans rfl; have hfz155_0 := blk_frozen BK295.out 0; have hfz155_1 := blk_frozen BK295.out 1; have hfz155_2 := blk_frozen BK295.out 2) | ((with_reducible refine gate_store (t := 26) (p := 11) rfl ?_); refine store_event (t := 26) (p := 11) (v := ?vo_w156) (w1 := (((w152.setCell ⟨gb295, 0, none⟩ (.int .i64 t291)).setCell ⟨gb295, 1, none⟩ (.int .i64 t292)).setCell ⟨gb295, 2, none⟩ (.int .u64 t293))) ?hg ?ho ?hn ?hr ?_; (case ho => rfl); (case hg => rfl); (case hn => rfl); (case hr => first | (go_simp; done) | (go_simp; rfl)); intro w156 hw; have n0_ : Aside0 (Kd.R (Kd.int .u64) 22 w156 w.heap.size (fun k_ => some k_ ≠ (.slice Ao143 y279.length co143 : Value).ownBlock ∧ some k_ ≠ (.slice Ao150 y288.length co150 : Value).ownBlock) (.slice (some ad277) t273.length co140) t273) := ⟨(by rw [hw]; exact (by (with_reducible repeat (first | apply Kd.R_alloc | apply Kd.R_drewN | apply Kd.R_drew)); exact Kd.R_mono (Kd.R_far (p := ⟨gb295, 2, none⟩) (Kd.R_far (p := ⟨gb295, 1, none⟩) (Kd.R_far (p := ⟨gb295, 0, none⟩) (Kd.R_types HO275.out BK295.out (by decide)) (fun _ hk => hk.2) (.int .i64 t291)) (fun _ hk => hk.2) (.int .i64 t292)) (fun _ hk => hk.2) (.int .u64 t293)) (fun _ hk => ⟨hk.1.1.2, hk.1.2⟩)))⟩; have n1_ : Aside0 (Kd.R (Kd.int .u64) 22 w156 w.heap.size (fun k_ => some k_ ≠ (.slice (some ad277) t273.length co140 : Value).ownBlock ∧ some k_ ≠ (.slice Ao150 y288.length co150 : Value).ownBlock) (.slice Ao143 y279.length co143) y279) := ⟨(by rw [hw]; exact (by (with_reducible repeat (first | apply Kd.R_alloc | apply Kd.R_drewN | apply Kd.R_drew)); exact Kd.R_mono (Kd.R_far (p := ⟨gb295, 2, none⟩) (Kd.R_far (p := ⟨gb295, 1, none⟩) (Kd.R_far (p := ⟨gb295, 0, none⟩) (Kd.R_types HO281.out BK295.out (by decide)) (fun _ hk => hk.2) (.int .i64 t291)) (fun _ hk => hk.2) (.int .i64 t292)) (fun _ hk => hk.2) (.int .u64 t293)) (fun _ hk => ⟨hk.1.1.2, hk.1.2⟩)))⟩; have n2_ : Aside0 (Kd.R (Kd.int .u64) 22 w156 w.heap.size (fun k_ => some k_ ≠ (.slice (some ad277) t273.length co140 : Value).ownBlock ∧ some k_ ≠ (.slice Ao143 y279.length co143 : Value).ownBlock) (.slice Ao150 y288.length co150) y288) := ⟨(by rw [hw]; exact (by (with_reducible repeat (first | apply Kd.R_alloc | apply Kd.R_drewN | apply Kd.R_drew)); exact Kd.R_mono (Kd.R_far (p := ⟨gb295, 2, none⟩) (Kd.R_far (p := ⟨gb295, 1, none⟩) (Kd.R_far (p := ⟨gb295, 0, none⟩) (Kd.R_types HO290.out BK295.out (by decide)) (fun _ hk => hk.2) (.int .i64 t291)) (fun _ hk => hk.2) (.int .i64 t292)) (fun _ hk => hk.2) (.int .u64 t293)) (fun _ hk => ⟨hk.1.1.2, hk.1.2⟩)))⟩; have n3_ : Aside0 (w156.heap[gb271]? = some (.cells #[.int .i64 a0_0, .int .i64 a0_1, .int .u64 a0_2] 26 (0, 0))) := ⟨(by rw [hw]; exact (by (with_reducible repeat (first | refine blk_drewN ?_ _ | refine blk_drew ?_ | refine blk_alloc ?_ _)); refine blk_far ?_ NB271_295.out _; (with_reducible repeat (first | refine blk_drewN ?_ _ | refine blk_drew ?_ | refine blk_alloc ?_ _)); refine blk_far ?_ NB271_295.out _; (with_reducible repeat (first | refine blk_drewN ?_ _ | refine blk_drew ?_ | refine blk_alloc ?_ _)); refine blk_far ?_ NB271_295.out _; (with_reducible repeat (first | refine blk_drewN ?_ _ | refine blk_drew ?_ | refine blk_alloc ?_ _)); exact BK271.out))⟩; have n4_ : Aside0 (w156.heap[gb286]? = some (.cells #[.int .i64 t282, .int .i64 t283, .int .u64 t284] 26 (0, 0))) := ⟨(by rw [hw]; exact (by (with_reducible repeat (first | refine blk_drewN ?_ _ | refine blk_drew ?_ | refine blk_alloc ?_ _)); refine blk_far ?_ NB286_295.out _; (with_reducible repeat (first | refine blk_drewN ?_ _ | refine blk_drew ?_ | refine blk_alloc ?_ _)); refine blk_far ?_ NB286_295.out _; (with_reducible repeat (first | refine blk_drewN ?_ _ | refine blk_drew ?_ | refine blk_alloc ?_ _)); refine blk_far ?_ NB286_295.out _; (with_reducible repeat (first | refine blk_drewN ?_ _ | refine blk_drew ?_ | refine blk_alloc ?_ _)); exact BK286.out))⟩; have n5_ : Aside0 (w156.heap[gb295]? = some (.cells #[.int .i64 t291, .int .i64 t292, .int .u64 t293] 26 (0, 0))) := ⟨(by rw [hw]; exact (by (with_reducible repeat (first | refine blk_drewN ?_ _ | refine blk_drew ?_ | refine blk_alloc ?_ _)); refine blk_put (cs := #[.int .i64 t291, .int .i64 t292, .int .u64 0]) ?_ 2 _ rfl; (with_reducible repeat (first | refine blk_drewN ?_ _ | refine blk_drew ?_ | refine blk_alloc ?_ _)); refine blk_put (cs := #[.int .i64 t291, .int .i64 0, .int .u64 0]) ?_ 1 _ rfl; (with_reducible repeat (first | refine blk_drewN ?_ _ | refine blk_drew ?_ | refine blk_alloc ?_ _)); refine blk_put (cs := #[.int .i64 0, .int .i64 0, .int .u64 0]) ?_ 0 _ rfl; (with_reducible repeat (first | refine blk_drewN ?_ _ | refine blk_drew ?_ | refine blk_alloc ?_ _)); exact BK295.out))⟩; have n6_ : Aside0 (Below w.heap.size w w156) := ⟨(by rw [hw]; exact (by repeat (first | (with_reducible first | exact HB.out | apply below_alloc | apply pw_below_drewN | apply below_drew1 | refine below_set ?_ GE271.out | refine below_set ?_ GE286.out | refine below_set ?_ GE295.out) | exact HB.out)))⟩; clear hw; clear HO275; clear HO281; clear HO290; clear BK271; clear BK286; clear BK295; clear HB; have HO275 := n0_; have HO281 := n1_; have HO290 := n2_; have BK271 := n3_; have BK286 := n4_; have BK295 := n5_; have HB := n6_; clear n0_ n1_ n2_ n3_ n4_ n5_ n6_; have q157 : (1 : Int) ≤ ((t273.length : Int) : Int) := of_decide_eq_true (by first | (with_reducible assumption) | assumption); obtain ⟨i0157, hi0157, _, hsz157, _⟩ := info_parts info22; have hroom157 : t273.length ≤ co140 := (Kd.R_reads' HO275.out).2.1; have hC157 : Kd.C (Kd.int .u64) _ (some ad277) t273.length t273 := (Kd.R_reads' HO275.out).2.2; have hcut157 := cut_to (P := Tryd.prog) 29 22 .i64 Tryd.underlying29 hi0157 (some ad277) t273.length co140 1 (by omega) q157 hroom157; have hr157 := Kd.C_take (m := 1) hC157 (by omega); have hy157 : y296.length = (1 : Int).toNat := (by rw [Ny296.out, List.length_take]; omega); rw [← Ny296.out] at hr157; rw [← hy157] at hcut157; have HR299 := Aside0.mk hr157; have HC299 := Aside0.mk (show y296.length ≤ co140 from by omega); clear hr157 hC157 hroom157 hi0157 hsz157; have KY157 := Aside0.mk hy157; clear hy157; have KL157 := Aside0.mk (show 1 ≤ t273.length from by omega); replace q157 := eq_true q157) | ((with_reducible refine gate_callee (f := 17) rfl ?_); refine goesL_ (some 62) rfl rfl Tryd.func17 (by kernel_rfl) rfl #[.slice (some ad277) y296.length co140] rfl (by (try simp only [List.map_toArray, List.map_cons, List.map_nil]); first | done | rfl | (simp only [List.length_drop, List.length_take]; rfl)) ?_; (with_reducible refine (oid_Decode.calls _ _ y296 t300 t301 t302 false _ ?side1 ?side2 A13.out).mono ?_); (case side1 => repeat (first | exact (by repeat (first | (with_reducible exact HR299.out) | (with_reducible refine Kd.C_alloc ?_ _) | (with_reducible refine Kd.C_drewN ?_ _) | (with_reducible refine Kd.C_drew ?_) | exact HR299.out)) | (with_reducible refine Kd.C_alloc ?_ _) | (with_reducible refine Kd.C_drewN ?_ _) | (with_reducible refine Kd.C_drew ?_))); (case side2 => exact HC299.out); rintro e w158 ⟨rfl, hb⟩; refine ⟨_, rfl, ?_⟩; have n0_ := Aside0.mk (Kd.R_below (by (with_reducible repeat (first | apply Kd.R_alloc | apply Kd.R_drewN | apply Kd.R_drew)); exact HO275.out) hb); have n1_ := Aside0.mk (Kd.R_below (by (with_reducible repeat (first | apply Kd.R_alloc | apply Kd.R_drewN | apply Kd.R_drew)); exact HO281.out) hb); have n2_ := Aside0.mk (Kd.R_below (by (with_reducible repeat (first | apply Kd.R_alloc | apply Kd.R_drewN | apply Kd.R_drew)); exact HO290.out) hb); have n3_ := Aside0.mk (blk_below (g := gb271) (o := .cells #[.int .i64 a0_0, .int .i64 a0_1, .int .u64 a0_2] 26 (0, 0)) (by (with_reducible repeat (first | refine blk_drewN ?_ _ | refine blk_drew ?_ | refine blk_alloc ?_ _)); exact BK271.out) hb); have n4_ := Aside0.mk (blk_below (g := gb286) (o := .cells #[.int .i64 t282, .int .i64 t283, .int .u64 t284] 26 (0, 0)) (by (with_reducible repeat (first | refine blk_drewN ?_ _ | refine blk_drew ?_ | refine blk_alloc ?_ _)); exact BK286.out) hb); have n5_ := Aside0.mk (blk_below (g := gb295) (o := .cells #[.int .i64 t291, .int .i64 t292, .int .u64 t293] 26 (0, 0)) (by (with_reducible repeat (first | refine blk_drewN ?_ _ | refine blk_drew ?_ | refine blk_alloc ?_ _)); exact BK295.out) hb); have n6_ := Aside0.mk (Kd.C_below (by repeat (first | (with_reducible exact HR299.out) | (with_reducible refine Kd.C_alloc ?_ _) | (with_reducible refine Kd.C_drewN ?_ _) | (with_reducible refine Kd.C_drew ?_) | exact HR299.out)) hb); have n7_ := Aside0.mk (below_step (by repeat (first | (with_reducible first | exact HB.out | apply below_alloc | apply pw_below_drewN | apply below_drew1 | refine below_set ?_ GE271.out | refine below_set ?_ GE286.out | refine below_set ?_ GE295.out) | exact HB.out)) hb); clear HO275; clear HO281; clear HO290; clear BK271; clear BK286; clear BK295; clear HR299; clear HB; have HO275 := n0_; have HO281 := n1_; have HO290 := n2_; have BK271 := n3_; have BK286 := n4_; have BK295 := n5_; have HR299 := n6_; have HB := n7_; clear n0_ n1_ n2_ n3_ n4_ n5_ n6_ n7_; (try clear hb); (try clear hb2); (try clear hk); (try clear hi)) | ((with_reducible refine gate_dst (N := 13) rfl ?_); (try (refine gate_guard (by rfl) ?_; dsimp only)); refine box_event ?hg (N := 13) ?hd (cs := #[.int .i64 0, .int .i64 0, .int .u64 0]) (t := 26) ?hr ?_; (case hd => rfl); (case hg => rfl); (case hr => first | (go_simp; done) | (go_simp; rfl)); intro gb304 hg w159 hbox hb; have n0_ := Aside0.mk (Kd.R_below (by (with_reducible repeat (first | apply Kd.R_alloc | apply Kd.R_drewN | apply Kd.R_drew)); exact HO275.out) hb); have n1_ := Aside0.mk (Kd.R_below (by (with_reducible repeat (first | apply Kd.R_alloc | apply Kd.R_drewN | apply Kd.R_drew)); exact HO281.out) hb); have n2_ := Aside0.mk (Kd.R_below (by (with_reducible repeat (first | apply Kd.R_alloc | apply Kd.R_drewN | apply Kd.R_drew)); exact HO290.out) hb); have n3_ := Aside0.mk (blk_below (g := gb271) (o := .cells #[.int .i64 a0_0, .int .i64 a0_1, .int .u64 a0_2] 26 (0, 0)) (by (with_reducible repeat (first | refine blk_drewN ?_ _ | refine blk_drew ?_ | refine blk_alloc ?_ _)); exact BK271.out) hb); have n4_ := Aside0.mk (blk_below (g := gb286) (o := .cells #[.int .i64 t282, .int .i64 t283, .int .u64 t284] 26 (0, 0)) (by (with_reducible repeat (first | refine blk_drewN ?_ _ | refine blk_drew ?_ | refine blk_alloc ?_ _)); exact BK286.out) hb); have n5_ := Aside0.mk (blk_below (g := gb295) (o := .cells #[.int .i64 t291, .int .i64 t292, .int .u64 t293] 26 (0, 0)) (by (with_reducible repeat (first | refine blk_drewN ?_ _ | refine blk_drew ?_ | refine blk_alloc ?_ _)); exact BK295.out) hb); have n6_ := Aside0.mk (Kd.C_below (by repeat (first | (with_reducible exact HR299.out) | (with_reducible refine Kd.C_alloc ?_ _) | (with_reducible refine Kd.C_drewN ?_ _) | (with_reducible refine Kd.C_drew ?_) | exact HR299.out)) hb); have n7_ := Aside0.mk (below_step (by repeat (first | (with_reducible first | exact HB.out | apply below_alloc | apply pw_below_drewN | apply below_drew1 | refine below_set ?_ GE271.out | refine below_set ?_ GE286.out | refine below_set ?_ GE295.out) | exact HB.out)) hb); have n8_ := Aside0.mk (hbox); have n9_ := Aside0.mk ((by rw [hg]; exact (below_size (by repeat (first | (with_reducible first | exact HB.out | apply below_alloc | apply pw_below_drewN | apply below_drew1 | refine below_set ?_ GE271.out | refine below_set ?_ GE286.out | refine below_set ?_ GE295.out) | exact HB.out))) : w.heap.size ≤ gb304)); have n10_ := Aside0.mk ((by rw [hg]; exact (below_size (by repeat (first | (with_reducible first | exact HB.out | apply below_alloc | apply pw_below_drewN | apply below_drew1 | refine below_set ?_ GE271.out | refine below_set ?_ GE286.out | refine below_set ?_ GE295.out) | exact HB.out))) : w.heap.size ≤ gb304)); have n11_ := Aside0.mk ((by rw [hg]; exact Nat.ne_of_lt (blk_lt (g := gb271) (o := .cells #[.int .i64 a0_0, .int .i64 a0_1, .int .u64 a0_2] 26 (0, 0)) (by (with_reducible repeat (first | refine blk_drewN ?_ _ | refine blk_drew ?_ | refine blk_alloc ?_ _)); exact BK271.out)) : gb271 ≠ gb304)); have n12_ := Aside0.mk ((by rw [hg]; exact Nat.ne_of_gt (blk_lt (g := gb271) (o := .cells #[.int .i64 a0_0, .int .i64 a0_1, .int .u64 a0_2] 26 (0, 0)) (by (with_reducible repeat (first | refine blk_drewN ?_ _ | refine blk_drew ?_ | refine blk_alloc ?_ _)); exact BK271.out)) : gb304 ≠ gb271)); have n13_ := Aside0.mk ((by rw [hg]; exact Nat.ne_of_lt (blk_lt (g := gb286) (o := .cells #[.int .i64 t282, .int .i64 t283, .int .u64 t284] 26 (0, 0)) (by (with_reducible repeat (first | refine blk_drewN ?_ _ | refine blk_drew ?_ | refine blk_alloc ?_ _)); exact BK286.out)) : gb286 ≠ gb304)); have n14_ := Aside0.mk ((by rw [hg]; exact Nat.ne_of_gt (blk_lt (g := gb286) (o := .cells #[.int .i64 t282, .int .i64 t283, .int .u64 t284] 26 (0, 0)) (by (with_reducible repeat (first | refine blk_drewN ?_ _ | refine blk_drew ?_ | refine blk_alloc ?_ _)); exact BK286.out)) : gb304 ≠ gb286)); have n15_ := Aside0.mk ((by rw [hg]; exact Nat.ne_of_lt (blk_lt (g := gb295) (o := .cells #[.int .i64 t291, .int .i64 t292, .int .u64 t293] 26 (0, 0)) (by (with_reducible repeat (first | refine blk_drewN ?_ _ | refine blk_drew ?_ | refine blk_alloc ?_ _)); exact BK295.out)) : gb295 ≠ gb304)); have n16_ := Aside0.mk ((by rw [hg]; exact Nat.ne_of_gt (blk_lt (g := gb295) (o := .cells #[.int .i64 t291, .int .i64 t292, .int .u64 t293] 26 (0, 0)) (by (with_reducible repeat (first | refine blk_drewN ?_ _ | refine blk_drew ?_ | refine blk_alloc ?_ _)); exact BK295.out)) : gb304 ≠ gb295)); clear HO275; clear HO281; clear HO290; clear BK271; clear BK286; clear BK295; clear HR299; clear HB; have HO275 := n0_; have HO281 := n1_; have HO290 := n2_; have BK271 := n3_; have BK286 := n4_; have BK295 := n5_; have HR299 := n6_; have HB := n7_; have BK304 := n8_; have GW304 := n9_; have GE304 := n10_; have NB271_304 := n11_; have NB304_271 := n12_; have NB286_304 := n13_; have NB304_286 := n14_; have NB295_304 := n15_; have NB304_295 := n16_; clear n0_ n1_ n2_ n3_ n4_ n5_ n6_ n7_ n8_ n9_ n10_ n11_ n12_ n13_ n14_ n15_ n16_; clear hb hbox hg; have hnb160 := NB304_271.out; have hnc160 := NB271_304.out; have hnb161 := NB304_286.out; have hnc161 := NB286_304.out; have hnb162 := NB304_295.out; have hnc162 := NB295_304.out; have hcz163_0 : w159.cell? ⟨gb304, 0, none⟩ = some (.int .i64 0) := (blk_cell BK304.out 0).trans rfl; have hcz163_1 : w159.cell? ⟨gb304, 1, none⟩ = some (.int .i64 0) := (blk_cell BK304.out 1).trans rfl; have hcz163_2 : w159.cell? ⟨gb304, 2, none⟩ = some (.int .u64 0) := (blk_cell BK304.out 2).trans rfl; have hfz163_0 := blk_frozen BK304.out 0; have hfz163_1 := blk_frozen BK304.out 1; have hfz163_2 := blk_frozen BK304.out 2))
                    have n0_ : Aside0 (Kd.R (Kd.int .u64) 22 (((w159.setCell ⟨gb304, 0, none⟩ (.int .i64 t300)).setCell ⟨gb304, 1, none⟩ (.int .i64 t301)).setCell ⟨gb304, 2, none⟩ (.int .u64 t302)) w.heap.size (fun k_ => some k_ ≠ (.slice Ao143 y279.length co143 : Value).ownBlock ∧ some k_ ≠ (.slice Ao150 y288.length co150 : Value).ownBlock) (.slice (some ad277) t273.length co140) t273) := ⟨by (with_reducible repeat (first | apply Kd.R_alloc | apply Kd.R_drewN | apply Kd.R_drew)); exact Kd.R_mono (Kd.R_far (p := ⟨gb304, 2, none⟩) (Kd.R_far (p := ⟨gb304, 1, none⟩) (Kd.R_far (p := ⟨gb304, 0, none⟩) (Kd.R_types HO275.out BK304.out (by decide)) (fun _ hk => hk.2) (.int .i64 t300)) (fun _ hk => hk.2) (.int .i64 t301)) (fun _ hk => hk.2) (.int .u64 t302)) (fun _ hk => ⟨hk.1.1, hk.1.2⟩)⟩
                    have n1_ : Aside0 (Kd.R (Kd.int .u64) 22 (((w159.setCell ⟨gb304, 0, none⟩ (.int .i64 t300)).setCell ⟨gb304, 1, none⟩ (.int .i64 t301)).setCell ⟨gb304, 2, none⟩ (.int .u64 t302)) w.heap.size (fun k_ => some k_ ≠ (.slice (some ad277) t273.length co140 : Value).ownBlock ∧ some k_ ≠ (.slice Ao150 y288.length co150 : Value).ownBlock) (.slice Ao143 y279.length co143) y279) := ⟨by (with_reducible repeat (first | apply Kd.R_alloc | apply Kd.R_drewN | apply Kd.R_drew)); exact Kd.R_mono (Kd.R_far (p := ⟨gb304, 2, none⟩) (Kd.R_far (p := ⟨gb304, 1, none⟩) (Kd.R_far (p := ⟨gb304, 0, none⟩) (Kd.R_types HO281.out BK304.out (by decide)) (fun _ hk => hk.2) (.int .i64 t300)) (fun _ hk => hk.2) (.int .i64 t301)) (fun _ hk => hk.2) (.int .u64 t302)) (fun _ hk => ⟨hk.1.1, hk.1.2⟩)⟩
                    have n2_ : Aside0 (Kd.R (Kd.int .u64) 22 (((w159.setCell ⟨gb304, 0, none⟩ (.int .i64 t300)).setCell ⟨gb304, 1, none⟩ (.int .i64 t301)).setCell ⟨gb304, 2, none⟩ (.int .u64 t302)) w.heap.size (fun k_ => some k_ ≠ (.slice (some ad277) t273.length co140 : Value).ownBlock ∧ some k_ ≠ (.slice Ao143 y279.length co143 : Value).ownBlock) (.slice Ao150 y288.length co150) y288) := ⟨by (with_reducible repeat (first | apply Kd.R_alloc | apply Kd.R_drewN | apply Kd.R_drew)); exact Kd.R_mono (Kd.R_far (p := ⟨gb304, 2, none⟩) (Kd.R_far (p := ⟨gb304, 1, none⟩) (Kd.R_far (p := ⟨gb304, 0, none⟩) (Kd.R_types HO290.out BK304.out (by decide)) (fun _ hk => hk.2) (.int .i64 t300)) (fun _ hk => hk.2) (.int .i64 t301)) (fun _ hk => hk.2) (.int .u64 t302)) (fun _ hk => ⟨hk.1.1, hk.1.2⟩)⟩
                    have n3_ : Aside0 ((((w159.setCell ⟨gb304, 0, none⟩ (.int .i64 t300)).setCell ⟨gb304, 1, none⟩ (.int .i64 t301)).setCell ⟨gb304, 2, none⟩ (.int .u64 t302)).heap[gb271]? = some (.cells #[.int .i64 a0_0, .int .i64 a0_1, .int .u64 a0_2] 26 (0, 0))) := ⟨by (with_reducible repeat (first | refine blk_drewN ?_ _ | refine blk_drew ?_ | refine blk_alloc ?_ _)); refine blk_far ?_ NB271_304.out _; (with_reducible repeat (first | refine blk_drewN ?_ _ | refine blk_drew ?_ | refine blk_alloc ?_ _)); refine blk_far ?_ NB271_304.out _; (with_reducible repeat (first | refine blk_drewN ?_ _ | refine blk_drew ?_ | refine blk_alloc ?_ _)); refine blk_far ?_ NB271_304.out _; (with_reducible repeat (first | refine blk_drewN ?_ _ | refine blk_drew ?_ | refine blk_alloc ?_ _)); exact BK271.out⟩
                    have n4_ : Aside0 ((((w159.setCell ⟨gb304, 0, none⟩ (.int .i64 t300)).setCell ⟨gb304, 1, none⟩ (.int .i64 t301)).setCell ⟨gb304, 2, none⟩ (.int .u64 t302)).heap[gb286]? = some (.cells #[.int .i64 t282, .int .i64 t283, .int .u64 t284] 26 (0, 0))) := ⟨by (with_reducible repeat (first | refine blk_drewN ?_ _ | refine blk_drew ?_ | refine blk_alloc ?_ _)); refine blk_far ?_ NB286_304.out _; (with_reducible repeat (first | refine blk_drewN ?_ _ | refine blk_drew ?_ | refine blk_alloc ?_ _)); refine blk_far ?_ NB286_304.out _; (with_reducible repeat (first | refine blk_drewN ?_ _ | refine blk_drew ?_ | refine blk_alloc ?_ _)); refine blk_far ?_ NB286_304.out _; (with_reducible repeat (first | refine blk_drewN ?_ _ | refine blk_drew ?_ | refine blk_alloc ?_ _)); exact BK286.out⟩
                    have n5_ : Aside0 ((((w159.setCell ⟨gb304, 0, none⟩ (.int .i64 t300)).setCell ⟨gb304, 1, none⟩ (.int .i64 t301)).setCell ⟨gb304, 2, none⟩ (.int .u64 t302)).heap[gb295]? = some (.cells #[.int .i64 t291, .int .i64 t292, .int .u64 t293] 26 (0, 0))) := ⟨by (with_reducible repeat (first | refine blk_drewN ?_ _ | refine blk_drew ?_ | refine blk_alloc ?_ _)); refine blk_far ?_ NB295_304.out _; (with_reducible repeat (first | refine blk_drewN ?_ _ | refine blk_drew ?_ | refine blk_alloc ?_ _)); refine blk_far ?_ NB295_304.out _; (with_reducible repeat (first | refine blk_drewN ?_ _ | refine blk_drew ?_ | refine blk_alloc ?_ _)); refine blk_far ?_ NB295_304.out _; (with_reducible repeat (first | refine blk_drewN ?_ _ | refine blk_drew ?_ | refine blk_alloc ?_ _)); exact BK295.out⟩
                    have n6_ : Aside0 ((((w159.setCell ⟨gb304, 0, none⟩ (.int .i64 t300)).setCell ⟨gb304, 1, none⟩ (.int .i64 t301)).setCell ⟨gb304, 2, none⟩ (.int .u64 t302)).heap[gb304]? = some (.cells #[.int .i64 t300, .int .i64 t301, .int .u64 t302] 26 (0, 0))) := ⟨by (with_reducible repeat (first | refine blk_drewN ?_ _ | refine blk_drew ?_ | refine blk_alloc ?_ _)); refine blk_put (cs := #[.int .i64 t300, .int .i64 t301, .int .u64 0]) ?_ 2 _ rfl; (with_reducible repeat (first | refine blk_drewN ?_ _ | refine blk_drew ?_ | refine blk_alloc ?_ _)); refine blk_put (cs := #[.int .i64 t300, .int .i64 0, .int .u64 0]) ?_ 1 _ rfl; (with_reducible repeat (first | refine blk_drewN ?_ _ | refine blk_drew ?_ | refine blk_alloc ?_ _)); refine blk_put (cs := #[.int .i64 0, .int .i64 0, .int .u64 0]) ?_ 0 _ rfl; (with_reducible repeat (first | refine blk_drewN ?_ _ | refine blk_drew ?_ | refine blk_alloc ?_ _)); exact BK304.out⟩
                    have n7_ : Aside0 (Below w.heap.size w (((w159.setCell ⟨gb304, 0, none⟩ (.int .i64 t300)).setCell ⟨gb304, 1, none⟩ (.int .i64 t301)).setCell ⟨gb304, 2, none⟩ (.int .u64 t302))) := ⟨by repeat (first | (with_reducible first | exact HB.out | apply below_alloc | apply pw_below_drewN | apply below_drew1 | refine below_set ?_ GE271.out | refine below_set ?_ GE286.out | refine below_set ?_ GE295.out | refine below_set ?_ GE304.out) | exact HB.out)⟩
                    (try clear HO275)
                    (try clear HO281)
                    (try clear HO290)
                    (try clear BK271)
                    (try clear BK286)
                    (try clear BK295)
                    (try clear BK304)
                    (try clear HB)
                    generalize (((w159.setCell ⟨gb304, 0, none⟩ (.int .i64 t300)).setCell ⟨gb304, 1, none⟩ (.int .i64 t301)).setCell ⟨gb304, 2, none⟩ (.int .u64 t302)) = w164 at n0_ n1_ n2_ n3_ n4_ n5_ n6_ n7_ ⊢
                    have HO275 := n0_
                    have HO281 := n1_
                    have HO290 := n2_
                    have BK271 := n3_
                    have BK286 := n4_
                    have BK295 := n5_
                    have BK304 := n6_
                    have HB := n7_
                    clear n0_ n1_ n2_ n3_ n4_ n5_ n6_ n7_
                    have n0_ := Aside0.mk (Kd.R_drew HO275.out)
                    have n1_ := Aside0.mk (Kd.R_drew HO281.out)
                    have n2_ := Aside0.mk (Kd.R_drew HO290.out)
                    have n3_ := Aside0.mk (blk_drew BK271.out)
                    have n4_ := Aside0.mk (blk_drew BK286.out)
                    have n5_ := Aside0.mk (blk_drew BK295.out)
                    have n6_ := Aside0.mk (blk_drew BK304.out)
                    have n7_ := Aside0.mk (below_drew1 HB.out)
                    clear HO275
                    clear HO281
                    clear HO290
                    clear BK271
                    clear BK286
                    clear BK295
                    clear BK304
                    clear HB
                    have HO275 := n0_
                    have HO281 := n1_
                    have HO290 := n2_
                    have BK271 := n3_
                    have BK286 := n4_
                    have BK295 := n5_
                    have BK304 := n6_
                    have HB := n7_
                    clear n0_ n1_ n2_ n3_ n4_ n5_ n6_ n7_
                    have p305 : 0 ≤ (0 : Int) := (by omega)
                    have q305 : 0 < (t273.length : Int) := of_decide_eq_true (by first | (with_reducible assumption) | assumption)
                    obtain ⟨ad305, e305, hx305_0⟩ := Kd.at_int (Kd.R_reads' HO275.out).2.2 0 p305 q305
                    obtain rfl : ad277 = ad305 := (by injection e305)
                    have qi305 : (0 < t273.length) = True := eq_true (by omega)
                    (try rw [show ((0 : Int)).toNat = 0 from rfl] at hx305_0)
                    (try rw [Addr.add_zero'] at hx305_0)
                    replace p305 := eq_true p305
                    replace q305 := eq_true q305
                    have p306 : 0 ≤ (1 : Int) := (by omega)
                    have q306 : 1 < (t273.length : Int) := of_decide_eq_true (by first | (with_reducible assumption) | assumption)
                    obtain ⟨ad306, e306, hx306_0⟩ := Kd.at_int (Kd.R_reads' HO275.out).2.2 1 p306 q306
                    obtain rfl : ad277 = ad306 := (by injection e306)
                    (try simp only [show (1 : Int).toNat = 1 from rfl, Nat.reduceMul, Nat.reduceEqDiff, Go.Addr.add, ↓reduceIte] at hx306_0)
                    have qi306 : (1 < t273.length) = True := eq_true (by omega)
                    (try rw [show ((1 : Int)).toNat = 1 from rfl] at hx306_0)
                    replace p306 := eq_true p306
                    replace q306 := eq_true q306
                    refine start_ (n := 15) (S := fun w' => w'.cell? ad277 = some (.int .u64 (rd t273 0)) ∧ w'.cell? ⟨ad277.block, ad277.off + 1, none⟩ = some (.int .u64 (rd t273 1))) (ds := []) #[false, false, false, false, false, false, false, false, false, false, false, false, false, false, false] (by kernel_rfl) rfl rfl ⟨hx305_0, hx306_0⟩ (fun hHeld => ?_); refine with_tabW lockfastlaw08_OidSigns.tab11 lockfastlaw08_OidSigns.bits11 (fun HT_ HW_ => ?_)
                    generalize w164.drew = w165 at HO275 HO281 HO290 BK271 BK286 BK295 BK304 HB hx305_0 hx306_0 hHeld ⊢
                    refine pure_ (i := 0) (N := some 66) (v := ?_) (a' := ?_) #[true, false, false, false, false, false, false, false, false, false, false, false, false, false, false] rfl rfl (any_of HT_.out (by kernel_rfl)) (fun _ _ _ h => h) (Or.inl ⟨by rfl, ?_⟩) ?_ ?_
                    rotate_left
                    · intro w'
                      go_simp
                      with_reducible rfl
                    rotate_left
                    · simp only [Act.put, List.setIfInBounds_toArray, List.set_cons_zero, List.set_cons_succ, i64_w, i32_w]
                      rfl
                    refine pure_ (i := 1) (N := some 67) (v := ?_) (a' := ?_) #[true, true, false, false, false, false, false, false, false, false, false, false, false, false, false] rfl rfl (any_of HT_.out (by kernel_rfl)) (fun _ _ _ h => h) (Or.inl ⟨by rfl, ?_⟩) ?_ ?_
                    rotate_left
                    · intro w'
                      go_simp
                      with_reducible rfl
                    rotate_left
                    · simp only [Act.put, List.setIfInBounds_toArray, List.set_cons_zero, List.set_cons_succ, i64_w, i32_w]
                      rfl
                    refine pure_ (i := 3) (N := some 69) (v := ?_) (a' := ?_) #[true, true, false, true, false, false, false, false, false, false, false, false, false, false, false] rfl rfl (any_of HT_.out (by kernel_rfl)) (fun _ _ _ h => h) (Or.inl ⟨by rfl, ?_⟩) ?_ ?_
                    rotate_left
                    · intro w'
                      go_simp
                      with_reducible rfl
                    rotate_left
                    · simp only [Act.put, List.setIfInBounds_toArray, List.set_cons_zero, List.set_cons_succ, i64_w, i32_w]
                      rfl
                    refine pure_ (i := 4) (N := some 70) (v := ?_) (a' := ?_) #[true, true, false, true, true, false, false, false, false, false, false, false, false, false, false] rfl rfl (any_of HT_.out (by kernel_rfl)) (fun _ _ _ h => h) (Or.inl ⟨by rfl, ?_⟩) ?_ ?_
                    rotate_left
                    · intro w'
                      go_simp
                      with_reducible rfl
                    rotate_left
                    · simp only [Act.put, List.setIfInBounds_toArray, List.set_cons_zero, List.set_cons_succ, i64_w, i32_w]
                      rfl
                    refine pure_ (i := 6) (N := some 72) (v := ?_) (a' := ?_) #[true, true, false, true, true, false, true, false, false, false, false, false, false, false, false] rfl rfl (any_of HT_.out (by kernel_rfl)) (fun _ _ _ h => h) (Or.inl ⟨by rfl, ?_⟩) ?_ ?_
                    rotate_left
                    · intro w'
                      go_simp
                      with_reducible rfl
                    rotate_left
                    · simp only [Act.put, List.setIfInBounds_toArray, List.set_cons_zero, List.set_cons_succ, i64_w, i32_w]
                      rfl
                    refine take_ (i := 2) (N := some 68) (v := ?_) (a' := ?_) #[true, true, true, true, true, false, true, false, false, false, false, false, false, false, false] rfl rfl (take_ofW HT_.out HW_.out (by kernel_rfl)) (fun _ _ _ h => h) (Or.inl ⟨by rfl, ?_⟩) hHeld ?_ ?_
                    rotate_left
                    · rintro w' ⟨s0, s1⟩
                      go_simp
                      with_reducible rfl
                    rotate_left
                    · simp only [Act.put, List.setIfInBounds_toArray, List.set_cons_zero, List.set_cons_succ, i64_w, i32_w]
                      rfl
                    refine take_ (i := 5) (N := some 71) (v := ?_) (a' := ?_) #[true, true, true, true, true, true, true, false, false, false, false, false, false, false, false] rfl rfl (take_ofW HT_.out HW_.out (by kernel_rfl)) (fun _ _ _ h => h) (Or.inl ⟨by rfl, ?_⟩) hHeld ?_ ?_
                    rotate_left
                    · rintro w' ⟨s0, s1⟩
                      go_simp
                      with_reducible rfl
                    rotate_left
                    · simp only [Act.put, List.setIfInBounds_toArray, List.set_cons_zero, List.set_cons_succ, i64_w, i32_w]
                      rfl
                    refine join_ (σ := Value × Nat) 2 #[true, true, true, true, true, true, true, true, true, true, true, true, true, false, false] (fun s_ => [(73, s_.1), (74, .tuple #[.agg #[.int .i64 t310, .int .i64 t311, .int .u64 t312], .bool t313]), (15, .pointer (some ⟨s_.2, 0, none⟩)), (65, .tuple #[.agg #[.int .i64 t310, .int .i64 t311, .int .u64 t312], .bool t313]), (75, .agg #[.int .i64 t310, .int .i64 t311, .int .u64 t312]), (76, .bool t313)]) (fun s_ w' => (w'.cell? ad277 = some (.int .u64 (rd t273 0)) ∧ w'.cell? ⟨ad277.block, ad277.off + 1, none⟩ = some (.int .u64 (rd t273 1))) ∧ (Kd.R (Kd.int .u64) 22 w' w.heap.size (fun k_ => some k_ ≠ (.slice Ao143 y279.length co143 : Value).ownBlock ∧ some k_ ≠ (.slice Ao150 y288.length co150 : Value).ownBlock ∧ some k_ ≠ (s_.1 : Value).ownBlock) (.slice (some ad277) t273.length co140) t273) ∧ (Kd.R (Kd.int .u64) 22 w' w.heap.size (fun k_ => some k_ ≠ (.slice (some ad277) t273.length co140 : Value).ownBlock ∧ some k_ ≠ (.slice Ao150 y288.length co150 : Value).ownBlock ∧ some k_ ≠ (s_.1 : Value).ownBlock) (.slice Ao143 y279.length co143) y279) ∧ (Kd.R (Kd.int .u64) 22 w' w.heap.size (fun k_ => some k_ ≠ (.slice (some ad277) t273.length co140 : Value).ownBlock ∧ some k_ ≠ (.slice Ao143 y279.length co143 : Value).ownBlock ∧ some k_ ≠ (s_.1 : Value).ownBlock) (.slice Ao150 y288.length co150) y288) ∧ (Kd.R (Kd.int .u64) 22 w' w.heap.size (fun k_ => some k_ ≠ (.slice (some ad277) t273.length co140 : Value).ownBlock ∧ some k_ ≠ (.slice Ao143 y279.length co143 : Value).ownBlock ∧ some k_ ≠ (.slice Ao150 y288.length co150 : Value).ownBlock) s_.1 y307) ∧ (w'.heap[gb271]? = some (.cells #[.int .i64 a0_0, .int .i64 a0_1, .int .u64 a0_2] 26 (0, 0))) ∧ (w'.heap[gb286]? = some (.cells #[.int .i64 t282, .int .i64 t283, .int .u64 t284] 26 (0, 0))) ∧ (w'.heap[gb295]? = some (.cells #[.int .i64 t291, .int .i64 t292, .int .u64 t293] 26 (0, 0))) ∧ (w'.heap[gb304]? = some (.cells #[.int .i64 t300, .int .i64 t301, .int .u64 t302] 26 (0, 0))) ∧ (w'.heap[s_.2]? = some (.cells #[.int .i64 0, .int .i64 0, .int .u64 0] 26 (0, 0))) ∧ (w.heap.size ≤ s_.2) ∧ (w.heap.size ≤ s_.2) ∧ (gb271 ≠ s_.2) ∧ (s_.2 ≠ gb271) ∧ (gb286 ≠ s_.2) ∧ (s_.2 ≠ gb286) ∧ (gb295 ≠ s_.2) ∧ (s_.2 ≠ gb295) ∧ (gb304 ≠ s_.2) ∧ (s_.2 ≠ gb304) ∧ (Below w.heap.size w w')) ?_ ?_
                    rotate_left
                    · intro hCont
                      refine two_ (i := 7) (j := 12) (Ni := some 73) (Nj := some 15) #[true, true, true, true, true, true, true, true, false, false, false, false, false, false, false] #[true, true, true, true, true, true, true, false, false, false, false, false, true, false, false] rfl rfl rfl rfl (two_of HT_.out (by kernel_rfl)) (by decide) (by decide) (fun K hK => ?_) (fun K hK => ?_)
                      · skip
                        refine Kd.R_lit_step (Kd.int .u64) _ 22 ?hg (N := 73) ?hd (xs := ([rd t273 0, rd t273 1, Go.bits .xor .u64 (rd t273 0) (ji8)] : List Int)) (inner := [.int .u64 (rd t273 0), .int .u64 (rd t273 1), .int .u64 (Go.bits .xor .u64 (rd t273 0) (ji8))]) (ok := fun _ => True) (okp := fun _ => True) ?hr ?hp (fun _ hk => hk) trivial (Below.refl _ _) (Nat.le_refl _) (by simp) ?_; (case hd => rfl); (case hg => rfl); (case hr => first | (go_simp; done) | (go_simp; rfl)); (case hp => exact (Reps.one (show Kd.M (Kd.int .u64) _ _ _ (rd t273 0) [.int .u64 (rd t273 0)] from rfl) (Reps.one (show Kd.M (Kd.int .u64) _ _ _ (rd t273 1) [.int .u64 (rd t273 1)] from rfl) (Reps.one (show Kd.M (Kd.int .u64) _ _ _ (Go.bits .xor .u64 (rd t273 0) (ji8)) [.int .u64 (Go.bits .xor .u64 (rd t273 0) (ji8))] from rfl) (Reps.none _ _)))))
                        intro v308 w166 ho167 hb hg_ hnew_
                        have HS0_ := (hb.cell (World.block_lt_of_cell? _ _ (hHeld.1))).trans (hHeld.1)
                        have HS1_ := (hb.cell (World.block_lt_of_cell? _ _ (hHeld.2))).trans (hHeld.2)
                        clear hg_ hnew_
                        (first | rw [← Ny307.out] at ho167 | (simp only [Int.reduceToNat] at ho167; rw [← Ny307.out] at ho167))
                        have n0_ := Aside0.mk (Kd.R_elder' (by (with_reducible repeat (first | apply Kd.R_alloc | apply Kd.R_drewN | apply Kd.R_drew)); exact HO275.out) (Kd.R_base ho167) hb)
                        have n1_ := Aside0.mk (Kd.R_elder' (by (with_reducible repeat (first | apply Kd.R_alloc | apply Kd.R_drewN | apply Kd.R_drew)); exact HO281.out) (Kd.R_base ho167) hb)
                        have n2_ := Aside0.mk (Kd.R_elder' (by (with_reducible repeat (first | apply Kd.R_alloc | apply Kd.R_drewN | apply Kd.R_drew)); exact HO290.out) (Kd.R_base ho167) hb)
                        have n3_ := Aside0.mk (Kd.R_lower (Kd.R_new' (Kd.R_new' (Kd.R_new' ho167 (Kd.R_lt (by (with_reducible repeat (first | apply Kd.R_alloc | apply Kd.R_drewN | apply Kd.R_drew)); exact HO275.out))) (Kd.R_lt (by (with_reducible repeat (first | apply Kd.R_alloc | apply Kd.R_drewN | apply Kd.R_drew)); exact HO281.out))) (Kd.R_lt (by (with_reducible repeat (first | apply Kd.R_alloc | apply Kd.R_drewN | apply Kd.R_drew)); exact HO290.out))) (below_size (by repeat (first | (with_reducible first | exact HB.out | apply below_alloc | apply pw_below_drewN | apply below_drew1 | refine below_set ?_ GE271.out | refine below_set ?_ GE286.out | refine below_set ?_ GE295.out | refine below_set ?_ GE304.out) | exact HB.out))))
                        have n4_ := Aside0.mk (blk_below (g := gb271) (o := .cells #[.int .i64 a0_0, .int .i64 a0_1, .int .u64 a0_2] 26 (0, 0)) (by (with_reducible repeat (first | refine blk_drewN ?_ _ | refine blk_drew ?_ | refine blk_alloc ?_ _)); exact BK271.out) hb)
                        have n5_ := Aside0.mk (blk_below (g := gb286) (o := .cells #[.int .i64 t282, .int .i64 t283, .int .u64 t284] 26 (0, 0)) (by (with_reducible repeat (first | refine blk_drewN ?_ _ | refine blk_drew ?_ | refine blk_alloc ?_ _)); exact BK286.out) hb)
                        have n6_ := Aside0.mk (blk_below (g := gb295) (o := .cells #[.int .i64 t291, .int .i64 t292, .int .u64 t293] 26 (0, 0)) (by (with_reducible repeat (first | refine blk_drewN ?_ _ | refine blk_drew ?_ | refine blk_alloc ?_ _)); exact BK295.out) hb)
                        have n7_ := Aside0.mk (blk_below (g := gb304) (o := .cells #[.int .i64 t300, .int .i64 t301, .int .u64 t302] 26 (0, 0)) (by (with_reducible repeat (first | refine blk_drewN ?_ _ | refine blk_drew ?_ | refine blk_alloc ?_ _)); exact BK304.out) hb)
                        have n8_ := Aside0.mk (below_step (by repeat (first | (with_reducible first | exact HB.out | apply below_alloc | apply pw_below_drewN | apply below_drew1 | refine below_set ?_ GE271.out | refine below_set ?_ GE286.out | refine below_set ?_ GE295.out | refine below_set ?_ GE304.out) | exact HB.out)) hb)
                        clear HO275
                        clear HO281
                        clear HO290
                        clear BK271
                        clear BK286
                        clear BK295
                        clear BK304
                        clear HB
                        have HO275 := n0_
                        have HO281 := n1_
                        have HO290 := n2_
                        have HO309 := n3_
                        have BK271 := n4_
                        have BK286 := n5_
                        have BK295 := n6_
                        have BK304 := n7_
                        have HB := n8_
                        clear n0_ n1_ n2_ n3_ n4_ n5_ n6_ n7_ n8_
                        clear hb ho167
                        obtain ⟨Ao168, co168, eo168⟩ := Kd.R_slice HO309.out
                        (first | subst eo168 | (injection eo168 with f1_ f2_ f3_; have f4_ := f1_.symm; have f5_ := f3_.symm; clear f1_ f2_ f3_; subst f4_; subst f5_))
                        refine hK.out _ _ ⟨HS0_, HS1_⟩ (fun hHeld => ?_)
                        clear hK K
                        refine norm_ (a' := ?_) ?_ ?_
                        rotate_left
                        · show Act.put _ (some 73) _ = _
                          simp only [Act.put, List.setIfInBounds_toArray, List.set_cons_zero, List.set_cons_succ, i64_w, i32_w]
                          rfl
                        refine two_ (i := 8) (j := 12) (Ni := some 74) (Nj := some 15) #[true, true, true, true, true, true, true, true, true, false, false, false, false, false, false] #[true, true, true, true, true, true, true, true, false, false, false, false, true, false, false] rfl rfl rfl rfl (two_of HT_.out (by kernel_rfl)) (by decide) (by decide) (fun K hK => ?_) (fun K hK => ?_)
                        · skip
                          refine goes_ Tryd.func17 (by kernel_rfl) rfl #[.slice Ao168 y307.length co168] (by rfl) rfl rfl (by (try simp only [List.map_toArray, List.map_cons, List.map_nil]); first | done | rfl | (simp only [List.length_drop, List.length_take]; rfl)) ?_
                          with_reducible refine (oid_Decode.calls _ _ y307 t310 t311 t312 t313 _ ?side1 ?side2 A14.out).mono ?_
                          (case side1 => repeat (first | exact (Kd.R_reads' HO309.out).2.2 | (with_reducible refine Kd.C_alloc ?_ _) | (with_reducible refine Kd.C_drewN ?_ _) | (with_reducible refine Kd.C_drew ?_)))
                          (case side2 => exact (Kd.R_reads' HO309.out).2.1)
                          rintro e w169 ⟨rfl, hb⟩
                          have HS0_ := (hb.cell (World.block_lt_of_cell? _ _ (hHeld.1))).trans (hHeld.1)
                          have HS1_ := (hb.cell (World.block_lt_of_cell? _ _ (hHeld.2))).trans (hHeld.2)
                          refine ⟨_, rfl, ?_⟩
                          have n0_ := Aside0.mk (Kd.R_below (by (with_reducible repeat (first | apply Kd.R_alloc | apply Kd.R_drewN | apply Kd.R_drew)); exact HO275.out) hb)
                          have n1_ := Aside0.mk (Kd.R_below (by (with_reducible repeat (first | apply Kd.R_alloc | apply Kd.R_drewN | apply Kd.R_drew)); exact HO281.out) hb)
                          have n2_ := Aside0.mk (Kd.R_below (by (with_reducible repeat (first | apply Kd.R_alloc | apply Kd.R_drewN | apply Kd.R_drew)); exact HO290.out) hb)
                          have n3_ := Aside0.mk (Kd.R_below (by (with_reducible repeat (first | apply Kd.R_alloc | apply Kd.R_drewN | apply Kd.R_drew)); exact HO309.out) hb)
                          have n4_ := Aside0.mk (blk_below (g := gb271) (o := .cells #[.int .i64 a0_0, .int .i64 a0_1, .int .u64 a0_2] 26 (0, 0)) (by (with_reducible repeat (first | refine blk_drewN ?_ _ | refine blk_drew ?_ | refine blk_alloc ?_ _)); exact BK271.out) hb)
                          have n5_ := Aside0.mk (blk_below (g := gb286) (o := .cells #[.int .i64 t282, .int .i64 t283, .int .u64 t284] 26 (0, 0)) (by (with_reducible repeat (first | refine blk_drewN ?_ _ | refine blk_drew ?_ | refine blk_alloc ?_ _)); exact BK286.out) hb)
                          have n6_ := Aside0.mk (blk_below (g := gb295) (o := .cells #[.int .i64 t291, .int .i64 t292, .int .u64 t293] 26 (0, 0)) (by (with_reducible repeat (first | refine blk_drewN ?_ _ | refine blk_drew ?_ | refine blk_alloc ?_ _)); exact BK295.out) hb)
                          have n7_ := Aside0.mk (blk_below (g := gb304) (o := .cells #[.int .i64 t300, .int .i64 t301, .int .u64 t302] 26 (0, 0)) (by (with_reducible repeat (first | refine blk_drewN ?_ _ | refine blk_drew ?_ | refine blk_alloc ?_ _)); exact BK304.out) hb)
                          have n8_ := Aside0.mk (below_step (by repeat (first | (with_reducible first | exact HB.out | apply below_alloc | apply pw_below_drewN | apply below_drew1 | refine below_set ?_ GE271.out | refine below_set ?_ GE286.out | refine below_set ?_ GE295.out | refine below_set ?_ GE304.out) | exact HB.out)) hb)
                          clear HO275
                          clear HO281
                          clear HO290
                          clear HO309
                          clear BK271
                          clear BK286
                          clear BK295
                          clear BK304
                          clear HB
                          have HO275 := n0_
                          have HO281 := n1_
                          have HO290 := n2_
                          have HO309 := n3_
                          have BK271 := n4_
                          have BK286 := n5_
                          have BK295 := n6_
                          have BK304 := n7_
                          have HB := n8_
                          clear n0_ n1_ n2_ n3_ n4_ n5_ n6_ n7_ n8_
                          (try clear hb)
                          (try clear hb2)
                          (try clear hk)
                          (try clear hi)
                          refine hK.out _ _ ⟨HS0_, HS1_⟩ (fun hHeld => ?_)
                          clear hK K
                          refine norm_ (a' := ?_) ?_ ?_
                          rotate_left
                          · show Act.put _ (some 74) _ = _
                            simp only [Act.put, List.setIfInBounds_toArray, List.set_cons_zero, List.set_cons_succ, i64_w, i32_w]
                            rfl
                          refine pure_ (i := 9) (N := some 65) (v := ?_) (a' := ?_) #[true, true, true, true, true, true, true, true, true, true, false, false, false, false, false] rfl rfl (any_of HT_.out (by kernel_rfl)) (fun _ _ _ h => h) (Or.inl ⟨by rfl, ?_⟩) ?_ ?_
                          rotate_left
                          · intro w'
                            go_simp
                            with_reducible rfl
                          rotate_left
                          · simp only [Act.put, List.setIfInBounds_toArray, List.set_cons_zero, List.set_cons_succ, i64_w, i32_w]
                            rfl
                          refine pure_ (i := 10) (N := some 75) (v := ?_) (a' := ?_) #[true, true, true, true, true, true, true, true, true, true, true, false, false, false, false] rfl rfl (any_of HT_.out (by kernel_rfl)) (fun _ _ _ h => h) (Or.inl ⟨by rfl, ?_⟩) ?_ ?_
                          rotate_left
                          · intro w'
                            go_simp
                            with_reducible rfl
                          rotate_left
                          · simp only [Act.put, List.setIfInBounds_toArray, List.set_cons_zero, List.set_cons_succ, i64_w, i32_w]
                            rfl
                          refine pure_ (i := 11) (N := some 76) (v := ?_) (a' := ?_) #[true, true, true, true, true, true, true, true, true, true, true, true, false, false, false] rfl rfl (any_of HT_.out (by kernel_rfl)) (fun _ _ _ h => h) (Or.inl ⟨by rfl, ?_⟩) ?_ ?_
                          rotate_left
                          · intro w'
                            go_simp
                            with_reducible rfl
                          rotate_left
                          · simp only [Act.put, List.setIfInBounds_toArray, List.set_cons_zero, List.set_cons_succ, i64_w, i32_w]
                            rfl
                          refine one_ (i := 12) (N := some 15) #[true, true, true, true, true, true, true, true, true, true, true, true, true, false, false] rfl rfl (one_of HT_.out (by kernel_rfl)) (by decide) (fun K hK => ?_)
                          refine box_step ?hg (N := 15) ?hd (cs := #[.int .i64 0, .int .i64 0, .int .u64 0]) (t := 26) ?hr ?_; (case hd => rfl); (case hg => rfl); (case hr => first | (go_simp; done) | (go_simp; rfl))
                          intro gb314 hg w170 hbox hb
                          have HS0_ := (hb.cell (World.block_lt_of_cell? _ _ (hHeld.1))).trans (hHeld.1)
                          have HS1_ := (hb.cell (World.block_lt_of_cell? _ _ (hHeld.2))).trans (hHeld.2)
                          have n0_ := Aside0.mk (Kd.R_below (by (with_reducible repeat (first | apply Kd.R_alloc | apply Kd.R_drewN | apply Kd.R_drew)); exact HO275.out) hb)
                          have n1_ := Aside0.mk (Kd.R_below (by (with_reducible repeat (first | apply Kd.R_alloc | apply Kd.R_drewN | apply Kd.R_drew)); exact HO281.out) hb)
                          have n2_ := Aside0.mk (Kd.R_below (by (with_reducible repeat (first | apply Kd.R_alloc | apply Kd.R_drewN | apply Kd.R_drew)); exact HO290.out) hb)
                          have n3_ := Aside0.mk (Kd.R_below (by (with_reducible repeat (first | apply Kd.R_alloc | apply Kd.R_drewN | apply Kd.R_drew)); exact HO309.out) hb)
                          have n4_ := Aside0.mk (blk_below (g := gb271) (o := .cells #[.int .i64 a0_0, .int .i64 a0_1, .int .u64 a0_2] 26 (0, 0)) (by (with_reducible repeat (first | refine blk_drewN ?_ _ | refine blk_drew ?_ | refine blk_alloc ?_ _)); exact BK271.out) hb)
                          have n5_ := Aside0.mk (blk_below (g := gb286) (o := .cells #[.int .i64 t282, .int .i64 t283, .int .u64 t284] 26 (0, 0)) (by (with_reducible repeat (first | refine blk_drewN ?_ _ | refine blk_drew ?_ | refine blk_alloc ?_ _)); exact BK286.out) hb)
                          have n6_ := Aside0.mk (blk_below (g := gb295) (o := .cells #[.int .i64 t291, .int .i64 t292, .int .u64 t293] 26 (0, 0)) (by (with_reducible repeat (first | refine blk_drewN ?_ _ | refine blk_drew ?_ | refine blk_alloc ?_ _)); exact BK295.out) hb)
                          have n7_ := Aside0.mk (blk_below (g := gb304) (o := .cells #[.int .i64 t300, .int .i64 t301, .int .u64 t302] 26 (0, 0)) (by (with_reducible repeat (first | refine blk_drewN ?_ _ | refine blk_drew ?_ | refine blk_alloc ?_ _)); exact BK304.out) hb)
                          have n8_ := Aside0.mk (below_step (by repeat (first | (with_reducible first | exact HB.out | apply below_alloc | apply pw_below_drewN | apply below_drew1 | refine below_set ?_ GE271.out | refine below_set ?_ GE286.out | refine below_set ?_ GE295.out | refine below_set ?_ GE304.out) | exact HB.out)) hb)
                          have n9_ := Aside0.mk (hbox)
                          have n10_ := Aside0.mk ((by rw [hg]; exact (below_size (by repeat (first | (with_reducible first | exact HB.out | apply below_alloc | apply pw_below_drewN | apply below_drew1 | refine below_set ?_ GE271.out | refine below_set ?_ GE286.out | refine below_set ?_ GE295.out | refine below_set ?_ GE304.out) | exact HB.out))) : w.heap.size ≤ gb314))
                          have n11_ := Aside0.mk ((by rw [hg]; exact (below_size (by repeat (first | (with_reducible first | exact HB.out | apply below_alloc | apply pw_below_drewN | apply below_drew1 | refine below_set ?_ GE271.out | refine below_set ?_ GE286.out | refine below_set ?_ GE295.out | refine below_set ?_ GE304.out) | exact HB.out))) : w.heap.size ≤ gb314))
                          have n12_ := Aside0.mk ((by rw [hg]; exact Nat.ne_of_lt (blk_lt (g := gb271) (o := .cells #[.int .i64 a0_0, .int .i64 a0_1, .int .u64 a0_2] 26 (0, 0)) (by (with_reducible repeat (first | refine blk_drewN ?_ _ | refine blk_drew ?_ | refine blk_alloc ?_ _)); exact BK271.out)) : gb271 ≠ gb314))
                          have n13_ := Aside0.mk ((by rw [hg]; exact Nat.ne_of_gt (blk_lt (g := gb271) (o := .cells #[.int .i64 a0_0, .int .i64 a0_1, .int .u64 a0_2] 26 (0, 0)) (by (with_reducible repeat (first | refine blk_drewN ?_ _ | refine blk_drew ?_ | refine blk_alloc ?_ _)); exact BK271.out)) : gb314 ≠ gb271))
                          have n14_ := Aside0.mk ((by rw [hg]; exact Nat.ne_of_lt (blk_lt (g := gb286) (o := .cells #[.int .i64 t282, .int .i64 t283, .int .u64 t284] 26 (0, 0)) (by (with_reducible repeat (first | refine blk_drewN ?_ _ | refine blk_drew ?_ | refine blk_alloc ?_ _)); exact BK286.out)) : gb286 ≠ gb314))
                          have n15_ := Aside0.mk ((by rw [hg]; exact Nat.ne_of_gt (blk_lt (g := gb286) (o := .cells #[.int .i64 t282, .int .i64 t283, .int .u64 t284] 26 (0, 0)) (by (with_reducible repeat (first | refine blk_drewN ?_ _ | refine blk_drew ?_ | refine blk_alloc ?_ _)); exact BK286.out)) : gb314 ≠ gb286))
                          have n16_ := Aside0.mk ((by rw [hg]; exact Nat.ne_of_lt (blk_lt (g := gb295) (o := .cells #[.int .i64 t291, .int .i64 t292, .int .u64 t293] 26 (0, 0)) (by (with_reducible repeat (first | refine blk_drewN ?_ _ | refine blk_drew ?_ | refine blk_alloc ?_ _)); exact BK295.out)) : gb295 ≠ gb314))
                          have n17_ := Aside0.mk ((by rw [hg]; exact Nat.ne_of_gt (blk_lt (g := gb295) (o := .cells #[.int .i64 t291, .int .i64 t292, .int .u64 t293] 26 (0, 0)) (by (with_reducible repeat (first | refine blk_drewN ?_ _ | refine blk_drew ?_ | refine blk_alloc ?_ _)); exact BK295.out)) : gb314 ≠ gb295))
                          have n18_ := Aside0.mk ((by rw [hg]; exact Nat.ne_of_lt (blk_lt (g := gb304) (o := .cells #[.int .i64 t300, .int .i64 t301, .int .u64 t302] 26 (0, 0)) (by (with_reducible repeat (first | refine blk_drewN ?_ _ | refine blk_drew ?_ | refine blk_alloc ?_ _)); exact BK304.out)) : gb304 ≠ gb314))
                          have n19_ := Aside0.mk ((by rw [hg]; exact Nat.ne_of_gt (blk_lt (g := gb304) (o := .cells #[.int .i64 t300, .int .i64 t301, .int .u64 t302] 26 (0, 0)) (by (with_reducible repeat (first | refine blk_drewN ?_ _ | refine blk_drew ?_ | refine blk_alloc ?_ _)); exact BK304.out)) : gb314 ≠ gb304))
                          clear HO275
                          clear HO281
                          clear HO290
                          clear HO309
                          clear BK271
                          clear BK286
                          clear BK295
                          clear BK304
                          clear HB
                          have HO275 := n0_
                          have HO281 := n1_
                          have HO290 := n2_
                          have HO309 := n3_
                          have BK271 := n4_
                          have BK286 := n5_
                          have BK295 := n6_
                          have BK304 := n7_
                          have HB := n8_
                          have BK314 := n9_
                          have GW314 := n10_
                          have GE314 := n11_
                          have NB271_314 := n12_
                          have NB314_271 := n13_
                          have NB286_314 := n14_
                          have NB314_286 := n15_
                          have NB295_314 := n16_
                          have NB314_295 := n17_
                          have NB304_314 := n18_
                          have NB314_304 := n19_
                          clear n0_ n1_ n2_ n3_ n4_ n5_ n6_ n7_ n8_ n9_ n10_ n11_ n12_ n13_ n14_ n15_ n16_ n17_ n18_ n19_
                          clear hb hbox hg
                          refine hK.out _ _ ⟨HS0_, HS1_⟩ (fun hHeld => ?_)
                          clear hK K
                          refine norm_ (a' := ?_) ?_ ?_
                          rotate_left
                          · show Act.put _ (some 15) _ = _
                            simp only [Act.put, List.setIfInBounds_toArray, List.set_cons_zero, List.set_cons_succ, i64_w, i32_w]
                            rfl
                          exact norm_ (by simp only [putAll, Act.put, List.setIfInBounds_toArray, List.set_cons_zero, List.set_cons_succ]) (hCont (.slice Ao168 y307.length co168, gb314) _ ⟨hHeld, (by (with_reducible repeat (first | apply Kd.R_alloc | apply Kd.R_drewN | apply Kd.R_drew)); exact Kd.R_mono HO275.out (fun _ hk => ⟨hk.1.1, ⟨hk.1.2, hk.2⟩⟩)), (by (with_reducible repeat (first | apply Kd.R_alloc | apply Kd.R_drewN | apply Kd.R_drew)); exact Kd.R_mono HO281.out (fun _ hk => ⟨hk.1.1, ⟨hk.1.2, hk.2⟩⟩)), (by (with_reducible repeat (first | apply Kd.R_alloc | apply Kd.R_drewN | apply Kd.R_drew)); exact Kd.R_mono HO290.out (fun _ hk => ⟨hk.1.1, ⟨hk.1.2, hk.2⟩⟩)), (by (with_reducible repeat (first | apply Kd.R_alloc | apply Kd.R_drewN | apply Kd.R_drew)); exact Kd.R_mono HO309.out (fun _ hk => ⟨hk.1.1.2, ⟨hk.1.2, hk.2⟩⟩)), (by (with_reducible repeat (first | refine blk_drewN ?_ _ | refine blk_drew ?_ | refine blk_alloc ?_ _)); exact BK271.out), (by (with_reducible repeat (first | refine blk_drewN ?_ _ | refine blk_drew ?_ | refine blk_alloc ?_ _)); exact BK286.out), (by (with_reducible repeat (first | refine blk_drewN ?_ _ | refine blk_drew ?_ | refine blk_alloc ?_ _)); exact BK295.out), (by (with_reducible repeat (first | refine blk_drewN ?_ _ | refine blk_drew ?_ | refine blk_alloc ?_ _)); exact BK304.out), (by (with_reducible repeat (first | refine blk_drewN ?_ _ | refine blk_drew ?_ | refine blk_alloc ?_ _)); exact BK314.out), GW314.out, GE314.out, NB271_314.out, NB314_271.out, NB286_314.out, NB314_286.out, NB295_314.out, NB314_295.out, NB304_314.out, NB314_304.out, (by repeat (first | (with_reducible first | exact HB.out | apply below_alloc | apply pw_below_drewN | apply below_drew1 | refine below_set ?_ GE271.out | refine below_set ?_ GE286.out | refine below_set ?_ GE295.out | refine below_set ?_ GE304.out | refine below_set ?_ GE314.out) | exact HB.out))⟩)
                        · skip
                          refine box_step ?hg (N := 15) ?hd (cs := #[.int .i64 0, .int .i64 0, .int .u64 0]) (t := 26) ?hr ?_; (case hd => rfl); (case hg => rfl); (case hr => first | (go_simp; done) | (go_simp; rfl))
                          intro gb314 hg w168 hbox hb
                          have HS0_ := (hb.cell (World.block_lt_of_cell? _ _ (hHeld.1))).trans (hHeld.1)
                          have HS1_ := (hb.cell (World.block_lt_of_cell? _ _ (hHeld.2))).trans (hHeld.2)
                          have n0_ := Aside0.mk (Kd.R_below (by (with_reducible repeat (first | apply Kd.R_alloc | apply Kd.R_drewN | apply Kd.R_drew)); exact HO275.out) hb)
                          have n1_ := Aside0.mk (Kd.R_below (by (with_reducible repeat (first | apply Kd.R_alloc | apply Kd.R_drewN | apply Kd.R_drew)); exact HO281.out) hb)
                          have n2_ := Aside0.mk (Kd.R_below (by (with_reducible repeat (first | apply Kd.R_alloc | apply Kd.R_drewN | apply Kd.R_drew)); exact HO290.out) hb)
                          have n3_ := Aside0.mk (Kd.R_below (by (with_reducible repeat (first | apply Kd.R_alloc | apply Kd.R_drewN | apply Kd.R_drew)); exact HO309.out) hb)
                          have n4_ := Aside0.mk (blk_below (g := gb271) (o := .cells #[.int .i64 a0_0, .int .i64 a0_1, .int .u64 a0_2] 26 (0, 0)) (by (with_reducible repeat (first | refine blk_drewN ?_ _ | refine blk_drew ?_ | refine blk_alloc ?_ _)); exact BK271.out) hb)
                          have n5_ := Aside0.mk (blk_below (g := gb286) (o := .cells #[.int .i64 t282, .int .i64 t283, .int .u64 t284] 26 (0, 0)) (by (with_reducible repeat (first | refine blk_drewN ?_ _ | refine blk_drew ?_ | refine blk_alloc ?_ _)); exact BK286.out) hb)
                          have n6_ := Aside0.mk (blk_below (g := gb295) (o := .cells #[.int .i64 t291, .int .i64 t292, .int .u64 t293] 26 (0, 0)) (by (with_reducible repeat (first | refine blk_drewN ?_ _ | refine blk_drew ?_ | refine blk_alloc ?_ _)); exact BK295.out) hb)
                          have n7_ := Aside0.mk (blk_below (g := gb304) (o := .cells #[.int .i64 t300, .int .i64 t301, .int .u64 t302] 26 (0, 0)) (by (with_reducible repeat (first | refine blk_drewN ?_ _ | refine blk_drew ?_ | refine blk_alloc ?_ _)); exact BK304.out) hb)
                          have n8_ := Aside0.mk (below_step (by repeat (first | (with_reducible first | exact HB.out | apply below_alloc | apply pw_below_drewN | apply below_drew1 | refine below_set ?_ GE271.out | refine below_set ?_ GE286.out | refine below_set ?_ GE295.out | refine below_set ?_ GE304.out) | exact HB.out)) hb)
                          have n9_ := Aside0.mk (hbox)
                          have n10_ := Aside0.mk ((by rw [hg]; exact (below_size (by repeat (first | (with_reducible first | exact HB.out | apply below_alloc | apply pw_below_drewN | apply below_drew1 | refine below_set ?_ GE271.out | refine below_set ?_ GE286.out | refine below_set ?_ GE295.out | refine below_set ?_ GE304.out) | exact HB.out))) : w.heap.size ≤ gb314))
                          have n11_ := Aside0.mk ((by rw [hg]; exact (below_size (by repeat (first | (with_reducible first | exact HB.out | apply below_alloc | apply pw_below_drewN | apply below_drew1 | refine below_set ?_ GE271.out | refine below_set ?_ GE286.out | refine below_set ?_ GE295.out | refine below_set ?_ GE304.out) | exact HB.out))) : w.heap.size ≤ gb314))
                          have n12_ := Aside0.mk ((by rw [hg]; exact Nat.ne_of_lt (blk_lt (g := gb271) (o := .cells #[.int .i64 a0_0, .int .i64 a0_1, .int .u64 a0_2] 26 (0, 0)) (by (with_reducible repeat (first | refine blk_drewN ?_ _ | refine blk_drew ?_ | refine blk_alloc ?_ _)); exact BK271.out)) : gb271 ≠ gb314))
                          have n13_ := Aside0.mk ((by rw [hg]; exact Nat.ne_of_gt (blk_lt (g := gb271) (o := .cells #[.int .i64 a0_0, .int .i64 a0_1, .int .u64 a0_2] 26 (0, 0)) (by (with_reducible repeat (first | refine blk_drewN ?_ _ | refine blk_drew ?_ | refine blk_alloc ?_ _)); exact BK271.out)) : gb314 ≠ gb271))
                          have n14_ := Aside0.mk ((by rw [hg]; exact Nat.ne_of_lt (blk_lt (g := gb286) (o := .cells #[.int .i64 t282, .int .i64 t283, .int .u64 t284] 26 (0, 0)) (by (with_reducible repeat (first | refine blk_drewN ?_ _ | refine blk_drew ?_ | refine blk_alloc ?_ _)); exact BK286.out)) : gb286 ≠ gb314))
                          have n15_ := Aside0.mk ((by rw [hg]; exact Nat.ne_of_gt (blk_lt (g := gb286) (o := .cells #[.int .i64 t282, .int .i64 t283, .int .u64 t284] 26 (0, 0)) (by (with_reducible repeat (first | refine blk_drewN ?_ _ | refine blk_drew ?_ | refine blk_alloc ?_ _)); exact BK286.out)) : gb314 ≠ gb286))
                          have n16_ := Aside0.mk ((by rw [hg]; exact Nat.ne_of_lt (blk_lt (g := gb295) (o := .cells #[.int .i64 t291, .int .i64 t292, .int .u64 t293] 26 (0, 0)) (by (with_reducible repeat (first | refine blk_drewN ?_ _ | refine blk_drew ?_ | refine blk_alloc ?_ _)); exact BK295.out)) : gb295 ≠ gb314))
                          have n17_ := Aside0.mk ((by rw [hg]; exact Nat.ne_of_gt (blk_lt (g := gb295) (o := .cells #[.int .i64 t291, .int .i64 t292, .int .u64 t293] 26 (0, 0)) (by (with_reducible repeat (first | refine blk_drewN ?_ _ | refine blk_drew ?_ | refine blk_alloc ?_ _)); exact BK295.out)) : gb314 ≠ gb295))
                          have n18_ := Aside0.mk ((by rw [hg]; exact Nat.ne_of_lt (blk_lt (g := gb304) (o := .cells #[.int .i64 t300, .int .i64 t301, .int .u64 t302] 26 (0, 0)) (by (with_reducible repeat (first | refine blk_drewN ?_ _ | refine blk_drew ?_ | refine blk_alloc ?_ _)); exact BK304.out)) : gb304 ≠ gb314))
                          have n19_ := Aside0.mk ((by rw [hg]; exact Nat.ne_of_gt (blk_lt (g := gb304) (o := .cells #[.int .i64 t300, .int .i64 t301, .int .u64 t302] 26 (0, 0)) (by (with_reducible repeat (first | refine blk_drewN ?_ _ | refine blk_drew ?_ | refine blk_alloc ?_ _)); exact BK304.out)) : gb314 ≠ gb304))
                          clear HO275
                          clear HO281
                          clear HO290
                          clear HO309
                          clear BK271
                          clear BK286
                          clear BK295
                          clear BK304
                          clear HB
                          have HO275 := n0_
                          have HO281 := n1_
                          have HO290 := n2_
                          have HO309 := n3_
                          have BK271 := n4_
                          have BK286 := n5_
                          have BK295 := n6_
                          have BK304 := n7_
                          have HB := n8_
                          have BK314 := n9_
                          have GW314 := n10_
                          have GE314 := n11_
                          have NB271_314 := n12_
                          have NB314_271 := n13_
                          have NB286_314 := n14_
                          have NB314_286 := n15_
                          have NB295_314 := n16_
                          have NB314_295 := n17_
                          have NB304_314 := n18_
                          have NB314_304 := n19_
                          clear n0_ n1_ n2_ n3_ n4_ n5_ n6_ n7_ n8_ n9_ n10_ n11_ n12_ n13_ n14_ n15_ n16_ n17_ n18_ n19_
                          clear hb hbox hg
                          obtain ⟨Ao169, co169, eo169⟩ := Kd.R_slice HO309.out
                          (first | subst eo169 | (injection eo169 with f1_ f2_ f3_; have f4_ := f1_.symm; have f5_ := f3_.symm; clear f1_ f2_ f3_; subst f4_; subst f5_))
                          refine hK.out _ _ ⟨HS0_, HS1_⟩ (fun hHeld => ?_)
                          clear hK K
                          refine norm_ (a' := ?_) ?_ ?_
                          rotate_left
                          · show Act.put _ (some 15) _ = _
                            simp only [Act.put, List.setIfInBounds_toArray, List.set_cons_zero, List.set_cons_succ, i64_w, i32_w]
                            rfl
                          refine one_ (i := 8) (N := some 74) #[true, true, true, true, true, true, true, true, true, false, false, false, true, false, false] rfl rfl (one_of HT_.out (by kernel_rfl)) (by decide) (fun K hK => ?_)
                          refine goes_ Tryd.func17 (by kernel_rfl) rfl #[.slice Ao169 y307.length co169] (by rfl) rfl rfl (by (try simp only [List.map_toArray, List.map_cons, List.map_nil]); first | done | rfl | (simp only [List.length_drop, List.length_take]; rfl)) ?_
                          with_reducible refine (oid_Decode.calls _ _ y307 t310 t311 t312 t313 _ ?side1 ?side2 A14.out).mono ?_
                          (case side1 => repeat (first | exact (Kd.R_reads' HO309.out).2.2 | (with_reducible refine Kd.C_alloc ?_ _) | (with_reducible refine Kd.C_drewN ?_ _) | (with_reducible refine Kd.C_drew ?_)))
                          (case side2 => exact (Kd.R_reads' HO309.out).2.1)
                          rintro e w170 ⟨rfl, hb⟩
                          have HS0_ := (hb.cell (World.block_lt_of_cell? _ _ (hHeld.1))).trans (hHeld.1)
                          have HS1_ := (hb.cell (World.block_lt_of_cell? _ _ (hHeld.2))).trans (hHeld.2)
                          refine ⟨_, rfl, ?_⟩
                          have n0_ := Aside0.mk (Kd.R_below (by (with_reducible repeat (first | apply Kd.R_alloc | apply Kd.R_drewN | apply Kd.R_drew)); exact HO275.out) hb)
                          have n1_ := Aside0.mk (Kd.R_below (by (with_reducible repeat (first | apply Kd.R_alloc | apply Kd.R_drewN | apply Kd.R_drew)); exact HO281.out) hb)
                          have n2_ := Aside0.mk (Kd.R_below (by (with_reducible repeat (first | apply Kd.R_alloc | apply Kd.R_drewN | apply Kd.R_drew)); exact HO290.out) hb)
                          have n3_ := Aside0.mk (Kd.R_below (by (with_reducible repeat (first | apply Kd.R_alloc | apply Kd.R_drewN | apply Kd.R_drew)); exact HO309.out) hb)
                          have n4_ := Aside0.mk (blk_below (g := gb271) (o := .cells #[.int .i64 a0_0, .int .i64 a0_1, .int .u64 a0_2] 26 (0, 0)) (by (with_reducible repeat (first | refine blk_drewN ?_ _ | refine blk_drew ?_ | refine blk_alloc ?_ _)); exact BK271.out) hb)
                          have n5_ := Aside0.mk (blk_below (g := gb286) (o := .cells #[.int .i64 t282, .int .i64 t283, .int .u64 t284] 26 (0, 0)) (by (with_reducible repeat (first | refine blk_drewN ?_ _ | refine blk_drew ?_ | refine blk_alloc ?_ _)); exact BK286.out) hb)
                          have n6_ := Aside0.mk (blk_below (g := gb295) (o := .cells #[.int .i64 t291, .int .i64 t292, .int .u64 t293] 26 (0, 0)) (by (with_reducible repeat (first | refine blk_drewN ?_ _ | refine blk_drew ?_ | refine blk_alloc ?_ _)); exact BK295.out) hb)
                          have n7_ := Aside0.mk (blk_below (g := gb304) (o := .cells #[.int .i64 t300, .int .i64 t301, .int .u64 t302] 26 (0, 0)) (by (with_reducible repeat (first | refine blk_drewN ?_ _ | refine blk_drew ?_ | refine blk_alloc ?_ _)); exact BK304.out) hb)
                          have n8_ := Aside0.mk (blk_below (g := gb314) (o := .cells #[.int .i64 0, .int .i64 0, .int .u64 0] 26 (0, 0)) (by (with_reducible repeat (first | refine blk_drewN ?_ _ | refine blk_drew ?_ | refine blk_alloc ?_ _)); exact BK314.out) hb)
                          have n9_ := Aside0.mk (below_step (by repeat (first | (with_reducible first | exact HB.out | apply below_alloc | apply pw_below_drewN | apply below_drew1 | refine below_set ?_ GE271.out | refine below_set ?_ GE286.out | refine below_set ?_ GE295.out | refine below_set ?_ GE304.out | refine below_set ?_ GE314.out) | exact HB.out)) hb)
                          clear HO275
                          clear HO281
                          clear HO290
                          clear HO309
                          clear BK271
                          clear BK286
                          clear BK295
                          clear BK304
                          clear BK314
                          clear HB
                          have HO275 := n0_
                          have HO281 := n1_
                          have HO290 := n2_
                          have HO309 := n3_
                          have BK271 := n4_
                          have BK286 := n5_
                          have BK295 := n6_
                          have BK304 := n7_
                          have BK314 := n8_
                          have HB := n9_
                          clear n0_ n1_ n2_ n3_ n4_ n5_ n6_ n7_ n8_ n9_
                          (try clear hb)
                          (try clear hb2)
                          (try clear hk)
                          (try clear hi)
                          refine hK.out _ _ ⟨HS0_, HS1_⟩ (fun hHeld => ?_)
                          clear hK K
                          refine norm_ (a' := ?_) ?_ ?_
                          rotate_left
                          · show Act.put _ (some 74) _ = _
                            simp only [Act.put, List.setIfInBounds_toArray, List.set_cons_zero, List.set_cons_succ, i64_w, i32_w]
                            rfl
                          refine pure_ (i := 9) (N := some 65) (v := ?_) (a' := ?_) #[true, true, true, true, true, true, true, true, true, true, false, false, true, false, false] rfl rfl (any_of HT_.out (by kernel_rfl)) (fun _ _ _ h => h) (Or.inl ⟨by rfl, ?_⟩) ?_ ?_
                          rotate_left
                          · intro w'
                            go_simp
                            with_reducible rfl
                          rotate_left
                          · simp only [Act.put, List.setIfInBounds_toArray, List.set_cons_zero, List.set_cons_succ, i64_w, i32_w]
                            rfl
                          refine pure_ (i := 10) (N := some 75) (v := ?_) (a' := ?_) #[true, true, true, true, true, true, true, true, true, true, true, false, true, false, false] rfl rfl (any_of HT_.out (by kernel_rfl)) (fun _ _ _ h => h) (Or.inl ⟨by rfl, ?_⟩) ?_ ?_
                          rotate_left
                          · intro w'
                            go_simp
                            with_reducible rfl
                          rotate_left
                          · simp only [Act.put, List.setIfInBounds_toArray, List.set_cons_zero, List.set_cons_succ, i64_w, i32_w]
                            rfl
                          refine pure_ (i := 11) (N := some 76) (v := ?_) (a' := ?_) #[true, true, true, true, true, true, true, true, true, true, true, true, true, false, false] rfl rfl (any_of HT_.out (by kernel_rfl)) (fun _ _ _ h => h) (Or.inl ⟨by rfl, ?_⟩) ?_ ?_
                          rotate_left
                          · intro w'
                            go_simp
                            with_reducible rfl
                          rotate_left
                          · simp only [Act.put, List.setIfInBounds_toArray, List.set_cons_zero, List.set_cons_succ, i64_w, i32_w]
                            rfl
                          exact norm_ (by simp only [putAll, Act.put, List.setIfInBounds_toArray, List.set_cons_zero, List.set_cons_succ]) (hCont (.slice Ao169 y307.length co169, gb314) _ ⟨hHeld, (by (with_reducible repeat (first | apply Kd.R_alloc | apply Kd.R_drewN | apply Kd.R_drew)); exact Kd.R_mono HO275.out (fun _ hk => ⟨hk.1.1, ⟨hk.1.2, hk.2⟩⟩)), (by (with_reducible repeat (first | apply Kd.R_alloc | apply Kd.R_drewN | apply Kd.R_drew)); exact Kd.R_mono HO281.out (fun _ hk => ⟨hk.1.1, ⟨hk.1.2, hk.2⟩⟩)), (by (with_reducible repeat (first | apply Kd.R_alloc | apply Kd.R_drewN | apply Kd.R_drew)); exact Kd.R_mono HO290.out (fun _ hk => ⟨hk.1.1, ⟨hk.1.2, hk.2⟩⟩)), (by (with_reducible repeat (first | apply Kd.R_alloc | apply Kd.R_drewN | apply Kd.R_drew)); exact Kd.R_mono HO309.out (fun _ hk => ⟨hk.1.1.2, ⟨hk.1.2, hk.2⟩⟩)), (by (with_reducible repeat (first | refine blk_drewN ?_ _ | refine blk_drew ?_ | refine blk_alloc ?_ _)); exact BK271.out), (by (with_reducible repeat (first | refine blk_drewN ?_ _ | refine blk_drew ?_ | refine blk_alloc ?_ _)); exact BK286.out), (by (with_reducible repeat (first | refine blk_drewN ?_ _ | refine blk_drew ?_ | refine blk_alloc ?_ _)); exact BK295.out), (by (with_reducible repeat (first | refine blk_drewN ?_ _ | refine blk_drew ?_ | refine blk_alloc ?_ _)); exact BK304.out), (by (with_reducible repeat (first | refine blk_drewN ?_ _ | refine blk_drew ?_ | refine blk_alloc ?_ _)); exact BK314.out), GW314.out, GE314.out, NB271_314.out, NB314_271.out, NB286_314.out, NB314_286.out, NB295_314.out, NB314_295.out, NB304_314.out, NB314_304.out, (by repeat (first | (with_reducible first | exact HB.out | apply below_alloc | apply pw_below_drewN | apply below_drew1 | refine below_set ?_ GE271.out | refine below_set ?_ GE286.out | refine below_set ?_ GE295.out | refine below_set ?_ GE304.out | refine below_set ?_ GE314.out) | exact HB.out))⟩)
                      · skip
                        refine box_step ?hg (N := 15) ?hd (cs := #[.int .i64 0, .int .i64 0, .int .u64 0]) (t := 26) ?hr ?_; (case hd => rfl); (case hg => rfl); (case hr => first | (go_simp; done) | (go_simp; rfl))
                        intro gb314 hg w166 hbox hb
                        have HS0_ := (hb.cell (World.block_lt_of_cell? _ _ (hHeld.1))).trans (hHeld.1)
                        have HS1_ := (hb.cell (World.block_lt_of_cell? _ _ (hHeld.2))).trans (hHeld.2)
                        have n0_ := Aside0.mk (Kd.R_below (by (with_reducible repeat (first | apply Kd.R_alloc | apply Kd.R_drewN | apply Kd.R_drew)); exact HO275.out) hb)
                        have n1_ := Aside0.mk (Kd.R_below (by (with_reducible repeat (first | apply Kd.R_alloc | apply Kd.R_drewN | apply Kd.R_drew)); exact HO281.out) hb)
                        have n2_ := Aside0.mk (Kd.R_below (by (with_reducible repeat (first | apply Kd.R_alloc | apply Kd.R_drewN | apply Kd.R_drew)); exact HO290.out) hb)
                        have n3_ := Aside0.mk (blk_below (g := gb271) (o := .cells #[.int .i64 a0_0, .int .i64 a0_1, .int .u64 a0_2] 26 (0, 0)) (by (with_reducible repeat (first | refine blk_drewN ?_ _ | refine blk_drew ?_ | refine blk_alloc ?_ _)); exact BK271.out) hb)
                        have n4_ := Aside0.mk (blk_below (g := gb286) (o := .cells #[.int .i64 t282, .int .i64 t283, .int .u64 t284] 26 (0, 0)) (by (with_reducible repeat (first | refine blk_drewN ?_ _ | refine blk_drew ?_ | refine blk_alloc ?_ _)); exact BK286.out) hb)
                        have n5_ := Aside0.mk (blk_below (g := gb295) (o := .cells #[.int .i64 t291, .int .i64 t292, .int .u64 t293] 26 (0, 0)) (by (with_reducible repeat (first | refine blk_drewN ?_ _ | refine blk_drew ?_ | refine blk_alloc ?_ _)); exact BK295.out) hb)
                        have n6_ := Aside0.mk (blk_below (g := gb304) (o := .cells #[.int .i64 t300, .int .i64 t301, .int .u64 t302] 26 (0, 0)) (by (with_reducible repeat (first | refine blk_drewN ?_ _ | refine blk_drew ?_ | refine blk_alloc ?_ _)); exact BK304.out) hb)
                        have n7_ := Aside0.mk (below_step (by repeat (first | (with_reducible first | exact HB.out | apply below_alloc | apply pw_below_drewN | apply below_drew1 | refine below_set ?_ GE271.out | refine below_set ?_ GE286.out | refine below_set ?_ GE295.out | refine below_set ?_ GE304.out) | exact HB.out)) hb)
                        have n8_ := Aside0.mk (hbox)
                        have n9_ := Aside0.mk ((by rw [hg]; exact (below_size (by repeat (first | (with_reducible first | exact HB.out | apply below_alloc | apply pw_below_drewN | apply below_drew1 | refine below_set ?_ GE271.out | refine below_set ?_ GE286.out | refine below_set ?_ GE295.out | refine below_set ?_ GE304.out) | exact HB.out))) : w.heap.size ≤ gb314))
                        have n10_ := Aside0.mk ((by rw [hg]; exact (below_size (by repeat (first | (with_reducible first | exact HB.out | apply below_alloc | apply pw_below_drewN | apply below_drew1 | refine below_set ?_ GE271.out | refine below_set ?_ GE286.out | refine below_set ?_ GE295.out | refine below_set ?_ GE304.out) | exact HB.out))) : w.heap.size ≤ gb314))
                        have n11_ := Aside0.mk ((by rw [hg]; exact Nat.ne_of_lt (blk_lt (g := gb271) (o := .cells #[.int .i64 a0_0, .int .i64 a0_1, .int .u64 a0_2] 26 (0, 0)) (by (with_reducible repeat (first | refine blk_drewN ?_ _ | refine blk_drew ?_ | refine blk_alloc ?_ _)); exact BK271.out)) : gb271 ≠ gb314))
                        have n12_ := Aside0.mk ((by rw [hg]; exact Nat.ne_of_gt (blk_lt (g := gb271) (o := .cells #[.int .i64 a0_0, .int .i64 a0_1, .int .u64 a0_2] 26 (0, 0)) (by (with_reducible repeat (first | refine blk_drewN ?_ _ | refine blk_drew ?_ | refine blk_alloc ?_ _)); exact BK271.out)) : gb314 ≠ gb271))
                        have n13_ := Aside0.mk ((by rw [hg]; exact Nat.ne_of_lt (blk_lt (g := gb286) (o := .cells #[.int .i64 t282, .int .i64 t283, .int .u64 t284] 26 (0, 0)) (by (with_reducible repeat (first | refine blk_drewN ?_ _ | refine blk_drew ?_ | refine blk_alloc ?_ _)); exact BK286.out)) : gb286 ≠ gb314))
                        have n14_ := Aside0.mk ((by rw [hg]; exact Nat.ne_of_gt (blk_lt (g := gb286) (o := .cells #[.int .i64 t282, .int .i64 t283, .int .u64 t284] 26 (0, 0)) (by (with_reducible repeat (first | refine blk_drewN ?_ _ | refine blk_drew ?_ | refine blk_alloc ?_ _)); exact BK286.out)) : gb314 ≠ gb286))
                        have n15_ := Aside0.mk ((by rw [hg]; exact Nat.ne_of_lt (blk_lt (g := gb295) (o := .cells #[.int .i64 t291, .int .i64 t292, .int .u64 t293] 26 (0, 0)) (by (with_reducible repeat (first | refine blk_drewN ?_ _ | refine blk_drew ?_ | refine blk_alloc ?_ _)); exact BK295.out)) : gb295 ≠ gb314))
                        have n16_ := Aside0.mk ((by rw [hg]; exact Nat.ne_of_gt (blk_lt (g := gb295) (o := .cells #[.int .i64 t291, .int .i64 t292, .int .u64 t293] 26 (0, 0)) (by (with_reducible repeat (first | refine blk_drewN ?_ _ | refine blk_drew ?_ | refine blk_alloc ?_ _)); exact BK295.out)) : gb314 ≠ gb295))
                        have n17_ := Aside0.mk ((by rw [hg]; exact Nat.ne_of_lt (blk_lt (g := gb304) (o := .cells #[.int .i64 t300, .int .i64 t301, .int .u64 t302] 26 (0, 0)) (by (with_reducible repeat (first | refine blk_drewN ?_ _ | refine blk_drew ?_ | refine blk_alloc ?_ _)); exact BK304.out)) : gb304 ≠ gb314))
                        have n18_ := Aside0.mk ((by rw [hg]; exact Nat.ne_of_gt (blk_lt (g := gb304) (o := .cells #[.int .i64 t300, .int .i64 t301, .int .u64 t302] 26 (0, 0)) (by (with_reducible repeat (first | refine blk_drewN ?_ _ | refine blk_drew ?_ | refine blk_alloc ?_ _)); exact BK304.out)) : gb314 ≠ gb304))
                        clear HO275
                        clear HO281
                        clear HO290
                        clear BK271
                        clear BK286
                        clear BK295
                        clear BK304
                        clear HB
                        have HO275 := n0_
                        have HO281 := n1_
                        have HO290 := n2_
                        have BK271 := n3_
                        have BK286 := n4_
                        have BK295 := n5_
                        have BK304 := n6_
                        have HB := n7_
                        have BK314 := n8_
                        have GW314 := n9_
                        have GE314 := n10_
                        have NB271_314 := n11_
                        have NB314_271 := n12_
                        have NB286_314 := n13_
                        have NB314_286 := n14_
                        have NB295_314 := n15_
                        have NB314_295 := n16_
                        have NB304_314 := n17_
                        have NB314_304 := n18_
                        clear n0_ n1_ n2_ n3_ n4_ n5_ n6_ n7_ n8_ n9_ n10_ n11_ n12_ n13_ n14_ n15_ n16_ n17_ n18_
                        clear hb hbox hg
                        refine hK.out _ _ ⟨HS0_, HS1_⟩ (fun hHeld => ?_)
                        clear hK K
                        refine norm_ (a' := ?_) ?_ ?_
                        rotate_left
                        · show Act.put _ (some 15) _ = _
                          simp only [Act.put, List.setIfInBounds_toArray, List.set_cons_zero, List.set_cons_succ, i64_w, i32_w]
                          rfl
                        refine one_ (i := 7) (N := some 73) #[true, true, true, true, true, true, true, true, false, false, false, false, true, false, false] rfl rfl (one_of HT_.out (by kernel_rfl)) (by decide) (fun K hK => ?_)
                        refine Kd.R_lit_step (Kd.int .u64) _ 22 ?hg (N := 73) ?hd (xs := ([rd t273 0, rd t273 1, Go.bits .xor .u64 (rd t273 0) (ji8)] : List Int)) (inner := [.int .u64 (rd t273 0), .int .u64 (rd t273 1), .int .u64 (Go.bits .xor .u64 (rd t273 0) (ji8))]) (ok := fun _ => True) (okp := fun _ => True) ?hr ?hp (fun _ hk => hk) trivial (Below.refl _ _) (Nat.le_refl _) (by simp) ?_; (case hd => rfl); (case hg => rfl); (case hr => first | (go_simp; done) | (go_simp; rfl)); (case hp => exact (Reps.one (show Kd.M (Kd.int .u64) _ _ _ (rd t273 0) [.int .u64 (rd t273 0)] from rfl) (Reps.one (show Kd.M (Kd.int .u64) _ _ _ (rd t273 1) [.int .u64 (rd t273 1)] from rfl) (Reps.one (show Kd.M (Kd.int .u64) _ _ _ (Go.bits .xor .u64 (rd t273 0) (ji8)) [.int .u64 (Go.bits .xor .u64 (rd t273 0) (ji8))] from rfl) (Reps.none _ _)))))
                        intro v308 w167 ho168 hb hg_ hnew_
                        have HS0_ := (hb.cell (World.block_lt_of_cell? _ _ (hHeld.1))).trans (hHeld.1)
                        have HS1_ := (hb.cell (World.block_lt_of_cell? _ _ (hHeld.2))).trans (hHeld.2)
                        clear hg_ hnew_
                        (first | rw [← Ny307.out] at ho168 | (simp only [Int.reduceToNat] at ho168; rw [← Ny307.out] at ho168))
                        have n0_ := Aside0.mk (Kd.R_elder' (by (with_reducible repeat (first | apply Kd.R_alloc | apply Kd.R_drewN | apply Kd.R_drew)); exact HO275.out) (Kd.R_base ho168) hb)
                        have n1_ := Aside0.mk (Kd.R_elder' (by (with_reducible repeat (first | apply Kd.R_alloc | apply Kd.R_drewN | apply Kd.R_drew)); exact HO281.out) (Kd.R_base ho168) hb)
                        have n2_ := Aside0.mk (Kd.R_elder' (by (with_reducible repeat (first | apply Kd.R_alloc | apply Kd.R_drewN | apply Kd.R_drew)); exact HO290.out) (Kd.R_base ho168) hb)
                        have n3_ := Aside0.mk (Kd.R_lower (Kd.R_new' (Kd.R_new' (Kd.R_new' ho168 (Kd.R_lt (by (with_reducible repeat (first | apply Kd.R_alloc | apply Kd.R_drewN | apply Kd.R_drew)); exact HO275.out))) (Kd.R_lt (by (with_reducible repeat (first | apply Kd.R_alloc | apply Kd.R_drewN | apply Kd.R_drew)); exact HO281.out))) (Kd.R_lt (by (with_reducible repeat (first | apply Kd.R_alloc | apply Kd.R_drewN | apply Kd.R_drew)); exact HO290.out))) (below_size (by repeat (first | (with_reducible first | exact HB.out | apply below_alloc | apply pw_below_drewN | apply below_drew1 | refine below_set ?_ GE271.out | refine below_set ?_ GE286.out | refine below_set ?_ GE295.out | refine below_set ?_ GE304.out | refine below_set ?_ GE314.out) | exact HB.out))))
                        have n4_ := Aside0.mk (blk_below (g := gb271) (o := .cells #[.int .i64 a0_0, .int .i64 a0_1, .int .u64 a0_2] 26 (0, 0)) (by (with_reducible repeat (first | refine blk_drewN ?_ _ | refine blk_drew ?_ | refine blk_alloc ?_ _)); exact BK271.out) hb)
                        have n5_ := Aside0.mk (blk_below (g := gb286) (o := .cells #[.int .i64 t282, .int .i64 t283, .int .u64 t284] 26 (0, 0)) (by (with_reducible repeat (first | refine blk_drewN ?_ _ | refine blk_drew ?_ | refine blk_alloc ?_ _)); exact BK286.out) hb)
                        have n6_ := Aside0.mk (blk_below (g := gb295) (o := .cells #[.int .i64 t291, .int .i64 t292, .int .u64 t293] 26 (0, 0)) (by (with_reducible repeat (first | refine blk_drewN ?_ _ | refine blk_drew ?_ | refine blk_alloc ?_ _)); exact BK295.out) hb)
                        have n7_ := Aside0.mk (blk_below (g := gb304) (o := .cells #[.int .i64 t300, .int .i64 t301, .int .u64 t302] 26 (0, 0)) (by (with_reducible repeat (first | refine blk_drewN ?_ _ | refine blk_drew ?_ | refine blk_alloc ?_ _)); exact BK304.out) hb)
                        have n8_ := Aside0.mk (blk_below (g := gb314) (o := .cells #[.int .i64 0, .int .i64 0, .int .u64 0] 26 (0, 0)) (by (with_reducible repeat (first | refine blk_drewN ?_ _ | refine blk_drew ?_ | refine blk_alloc ?_ _)); exact BK314.out) hb)
                        have n9_ := Aside0.mk (below_step (by repeat (first | (with_reducible first | exact HB.out | apply below_alloc | apply pw_below_drewN | apply below_drew1 | refine below_set ?_ GE271.out | refine below_set ?_ GE286.out | refine below_set ?_ GE295.out | refine below_set ?_ GE304.out | refine below_set ?_ GE314.out) | exact HB.out)) hb)
                        clear HO275
                        clear HO281
                        clear HO290
                        clear BK271
                        clear BK286
                        clear BK295
                        clear BK304
                        clear BK314
                        clear HB
                        have HO275 := n0_
                        have HO281 := n1_
                        have HO290 := n2_
                        have HO309 := n3_
                        have BK271 := n4_
                        have BK286 := n5_
                        have BK295 := n6_
                        have BK304 := n7_
                        have BK314 := n8_
                        have HB := n9_
                        clear n0_ n1_ n2_ n3_ n4_ n5_ n6_ n7_ n8_ n9_
                        clear hb ho168
                        obtain ⟨Ao169, co169, eo169⟩ := Kd.R_slice HO309.out
                        (first | subst eo169 | (injection eo169 with f1_ f2_ f3_; have f4_ := f1_.symm; have f5_ := f3_.symm; clear f1_ f2_ f3_; subst f4_; subst f5_))
                        refine hK.out _ _ ⟨HS0_, HS1_⟩ (fun hHeld => ?_)
                        clear hK K
                        refine norm_ (a' := ?_) ?_ ?_
                        rotate_left
                        · show Act.put _ (some 73) _ = _
                          simp only [Act.put, List.setIfInBounds_toArray, List.set_cons_zero, List.set_cons_succ, i64_w, i32_w]
                          rfl
                        refine one_ (i := 8) (N := some 74) #[true, true, true, true, true, true, true, true, true, false, false, false, true, false, false] rfl rfl (one_of HT_.out (by kernel_rfl)) (by decide) (fun K hK => ?_)
                        refine goes_ Tryd.func17 (by kernel_rfl) rfl #[.slice Ao169 y307.length co169] (by rfl) rfl rfl (by (try simp only [List.map_toArray, List.map_cons, List.map_nil]); first | done | rfl | (simp only [List.length_drop, List.length_take]; rfl)) ?_
                        with_reducible refine (oid_Decode.calls _ _ y307 t310 t311 t312 t313 _ ?side1 ?side2 A14.out).mono ?_
                        (case side1 => repeat (first | exact (Kd.R_reads' HO309.out).2.2 | (with_reducible refine Kd.C_alloc ?_ _) | (with_reducible refine Kd.C_drewN ?_ _) | (with_reducible refine Kd.C_drew ?_)))
                        (case side2 => exact (Kd.R_reads' HO309.out).2.1)
                        rintro e w170 ⟨rfl, hb⟩
                        have HS0_ := (hb.cell (World.block_lt_of_cell? _ _ (hHeld.1))).trans (hHeld.1)
                        have HS1_ := (hb.cell (World.block_lt_of_cell? _ _ (hHeld.2))).trans (hHeld.2)
                        refine ⟨_, rfl, ?_⟩
                        have n0_ := Aside0.mk (Kd.R_below (by (with_reducible repeat (first | apply Kd.R_alloc | apply Kd.R_drewN | apply Kd.R_drew)); exact HO275.out) hb)
                        have n1_ := Aside0.mk (Kd.R_below (by (with_reducible repeat (first | apply Kd.R_alloc | apply Kd.R_drewN | apply Kd.R_drew)); exact HO281.out) hb)
                        have n2_ := Aside0.mk (Kd.R_below (by (with_reducible repeat (first | apply Kd.R_alloc | apply Kd.R_drewN | apply Kd.R_drew)); exact HO290.out) hb)
                        have n3_ := Aside0.mk (Kd.R_below (by (with_reducible repeat (first | apply Kd.R_alloc | apply Kd.R_drewN | apply Kd.R_drew)); exact HO309.out) hb)
                        have n4_ := Aside0.mk (blk_below (g := gb271) (o := .cells #[.int .i64 a0_0, .int .i64 a0_1, .int .u64 a0_2] 26 (0, 0)) (by (with_reducible repeat (first | refine blk_drewN ?_ _ | refine blk_drew ?_ | refine blk_alloc ?_ _)); exact BK271.out) hb)
                        have n5_ := Aside0.mk (blk_below (g := gb286) (o := .cells #[.int .i64 t282, .int .i64 t283, .int .u64 t284] 26 (0, 0)) (by (with_reducible repeat (first | refine blk_drewN ?_ _ | refine blk_drew ?_ | refine blk_alloc ?_ _)); exact BK286.out) hb)
                        have n6_ := Aside0.mk (blk_below (g := gb295) (o := .cells #[.int .i64 t291, .int .i64 t292, .int .u64 t293] 26 (0, 0)) (by (with_reducible repeat (first | refine blk_drewN ?_ _ | refine blk_drew ?_ | refine blk_alloc ?_ _)); exact BK295.out) hb)
                        have n7_ := Aside0.mk (blk_below (g := gb304) (o := .cells #[.int .i64 t300, .int .i64 t301, .int .u64 t302] 26 (0, 0)) (by (with_reducible repeat (first | refine blk_drewN ?_ _ | refine blk_drew ?_ | refine blk_alloc ?_ _)); exact BK304.out) hb)
                        have n8_ := Aside0.mk (blk_below (g := gb314) (o := .cells #[.int .i64 0, .int .i64 0, .int .u64 0] 26 (0, 0)) (by (with_reducible repeat (first | refine blk_drewN ?_ _ | refine blk_drew ?_ | refine blk_alloc ?_ _)); exact BK314.out) hb)
                        have n9_ := Aside0.mk (below_step (by repeat (first | (with_reducible first | exact HB.out | apply below_alloc | apply pw_below_drewN | apply below_drew1 | refine below_set ?_ GE271.out | refine below_set ?_ GE286.out | refine below_set ?_ GE295.out | refine below_set ?_ GE304.out | refine below_set ?_ GE314.out) | exact HB.out)) hb)
                        clear HO275
                        clear HO281
                        clear HO290
                        clear HO309
                        clear BK271
                        clear BK286
                        clear BK295
                        clear BK304
                        clear BK314
                        clear HB
                        have HO275 := n0_
                        have HO281 := n1_
                        have HO290 := n2_
                        have HO309 := n3_
                        have BK271 := n4_
                        have BK286 := n5_
                        have BK295 := n6_
                        have BK304 := n7_
                        have BK314 := n8_
                        have HB := n9_
                        clear n0_ n1_ n2_ n3_ n4_ n5_ n6_ n7_ n8_ n9_
                        (try clear hb)
                        (try clear hb2)
                        (try clear hk)
                        (try clear hi)
                        refine hK.out _ _ ⟨HS0_, HS1_⟩ (fun hHeld => ?_)
                        clear hK K
                        refine norm_ (a' := ?_) ?_ ?_
                        rotate_left
                        · show Act.put _ (some 74) _ = _
                          simp only [Act.put, List.setIfInBounds_toArray, List.set_cons_zero, List.set_cons_succ, i64_w, i32_w]
                          rfl
                        refine pure_ (i := 9) (N := some 65) (v := ?_) (a' := ?_) #[true, true, true, true, true, true, true, true, true, true, false, false, true, false, false] rfl rfl (any_of HT_.out (by kernel_rfl)) (fun _ _ _ h => h) (Or.inl ⟨by rfl, ?_⟩) ?_ ?_
                        rotate_left
                        · intro w'
                          go_simp
                          with_reducible rfl
                        rotate_left
                        · simp only [Act.put, List.setIfInBounds_toArray, List.set_cons_zero, List.set_cons_succ, i64_w, i32_w]
                          rfl
                        refine pure_ (i := 10) (N := some 75) (v := ?_) (a' := ?_) #[true, true, true, true, true, true, true, true, true, true, true, false, true, false, false] rfl rfl (any_of HT_.out (by kernel_rfl)) (fun _ _ _ h => h) (Or.inl ⟨by rfl, ?_⟩) ?_ ?_
                        rotate_left
                        · intro w'
                          go_simp
                          with_reducible rfl
                        rotate_left
                        · simp only [Act.put, List.setIfInBounds_toArray, List.set_cons_zero, List.set_cons_succ, i64_w, i32_w]
                          rfl
                        refine pure_ (i := 11) (N := some 76) (v := ?_) (a' := ?_) #[true, true, true, true, true, true, true, true, true, true, true, true, true, false, false] rfl rfl (any_of HT_.out (by kernel_rfl)) (fun _ _ _ h => h) (Or.inl ⟨by rfl, ?_⟩) ?_ ?_
                        rotate_left
                        · intro w'
                          go_simp
                          with_reducible rfl
                        rotate_left
                        · simp only [Act.put, List.setIfInBounds_toArray, List.set_cons_zero, List.set_cons_succ, i64_w, i32_w]
                          rfl
                        exact norm_ (by simp only [putAll, Act.put, List.setIfInBounds_toArray, List.set_cons_zero, List.set_cons_succ]) (hCont (.slice Ao169 y307.length co169, gb314) _ ⟨hHeld, (by (with_reducible repeat (first | apply Kd.R_alloc | apply Kd.R_drewN | apply Kd.R_drew)); exact Kd.R_mono HO275.out (fun _ hk => ⟨hk.1.1, ⟨hk.1.2, hk.2⟩⟩)), (by (with_reducible repeat (first | apply Kd.R_alloc | apply Kd.R_drewN | apply Kd.R_drew)); exact Kd.R_mono HO281.out (fun _ hk => ⟨hk.1.1, ⟨hk.1.2, hk.2⟩⟩)), (by (with_reducible repeat (first | apply Kd.R_alloc | apply Kd.R_drewN | apply Kd.R_drew)); exact Kd.R_mono HO290.out (fun _ hk => ⟨hk.1.1, ⟨hk.1.2, hk.2⟩⟩)), (by (with_reducible repeat (first | apply Kd.R_alloc | apply Kd.R_drewN | apply Kd.R_drew)); exact Kd.R_mono HO309.out (fun _ hk => ⟨hk.1.1.2, ⟨hk.1.2, hk.2⟩⟩)), (by (with_reducible repeat (first | refine blk_drewN ?_ _ | refine blk_drew ?_ | refine blk_alloc ?_ _)); exact BK271.out), (by (with_reducible repeat (first | refine blk_drewN ?_ _ | refine blk_drew ?_ | refine blk_alloc ?_ _)); exact BK286.out), (by (with_reducible repeat (first | refine blk_drewN ?_ _ | refine blk_drew ?_ | refine blk_alloc ?_ _)); exact BK295.out), (by (with_reducible repeat (first | refine blk_drewN ?_ _ | refine blk_drew ?_ | refine blk_alloc ?_ _)); exact BK304.out), (by (with_reducible repeat (first | refine blk_drewN ?_ _ | refine blk_drew ?_ | refine blk_alloc ?_ _)); exact BK314.out), GW314.out, GE314.out, NB271_314.out, NB314_271.out, NB286_314.out, NB314_286.out, NB295_314.out, NB314_295.out, NB304_314.out, NB314_304.out, (by repeat (first | (with_reducible first | exact HB.out | apply below_alloc | apply pw_below_drewN | apply below_drew1 | refine below_set ?_ GE271.out | refine below_set ?_ GE286.out | refine below_set ?_ GE295.out | refine below_set ?_ GE304.out | refine below_set ?_ GE314.out) | exact HB.out))⟩)
                    rintro ⟨v308, gb314⟩ w171 ⟨hS_, h0_, h1_, h2_, h3_, h4_, h5_, h6_, h7_, h8_, h9_, h10_, h11_, h12_, h13_, h14_, h15_, h16_, h17_, h18_, h19_⟩
                    have n0_ : Aside0 (Kd.R (Kd.int .u64) 22 w171 w.heap.size (fun k_ => some k_ ≠ (.slice Ao143 y279.length co143 : Value).ownBlock ∧ some k_ ≠ (.slice Ao150 y288.length co150 : Value).ownBlock ∧ some k_ ≠ (v308 : Value).ownBlock) (.slice (some ad277) t273.length co140) t273) := ⟨h0_⟩
                    have n1_ : Aside0 (Kd.R (Kd.int .u64) 22 w171 w.heap.size (fun k_ => some k_ ≠ (.slice (some ad277) t273.length co140 : Value).ownBlock ∧ some k_ ≠ (.slice Ao150 y288.length co150 : Value).ownBlock ∧ some k_ ≠ (v308 : Value).ownBlock) (.slice Ao143 y279.length co143) y279) := ⟨h1_⟩
                    have n2_ : Aside0 (Kd.R (Kd.int .u64) 22 w171 w.heap.size (fun k_ => some k_ ≠ (.slice (some ad277) t273.length co140 : Value).ownBlock ∧ some k_ ≠ (.slice Ao143 y279.length co143 : Value).ownBlock ∧ some k_ ≠ (v308 : Value).ownBlock) (.slice Ao150 y288.length co150) y288) := ⟨h2_⟩
                    have n3_ : Aside0 (Kd.R (Kd.int .u64) 22 w171 w.heap.size (fun k_ => some k_ ≠ (.slice (some ad277) t273.length co140 : Value).ownBlock ∧ some k_ ≠ (.slice Ao143 y279.length co143 : Value).ownBlock ∧ some k_ ≠ (.slice Ao150 y288.length co150 : Value).ownBlock) v308 y307) := ⟨h3_⟩
                    have n4_ : Aside0 (w171.heap[gb271]? = some (.cells #[.int .i64 a0_0, .int .i64 a0_1, .int .u64 a0_2] 26 (0, 0))) := ⟨h4_⟩
                    have n5_ : Aside0 (w171.heap[gb286]? = some (.cells #[.int .i64 t282, .int .i64 t283, .int .u64 t284] 26 (0, 0))) := ⟨h5_⟩
                    have n6_ : Aside0 (w171.heap[gb295]? = some (.cells #[.int .i64 t291, .int .i64 t292, .int .u64 t293] 26 (0, 0))) := ⟨h6_⟩
                    have n7_ : Aside0 (w171.heap[gb304]? = some (.cells #[.int .i64 t300, .int .i64 t301, .int .u64 t302] 26 (0, 0))) := ⟨h7_⟩
                    have n8_ : Aside0 (w171.heap[gb314]? = some (.cells #[.int .i64 0, .int .i64 0, .int .u64 0] 26 (0, 0))) := ⟨h8_⟩
                    have n9_ : Aside0 (w.heap.size ≤ gb314) := ⟨h9_⟩
                    have n10_ : Aside0 (w.heap.size ≤ gb314) := ⟨h10_⟩
                    have n11_ : Aside0 (gb271 ≠ gb314) := ⟨h11_⟩
                    have n12_ : Aside0 (gb314 ≠ gb271) := ⟨h12_⟩
                    have n13_ : Aside0 (gb286 ≠ gb314) := ⟨h13_⟩
                    have n14_ : Aside0 (gb314 ≠ gb286) := ⟨h14_⟩
                    have n15_ : Aside0 (gb295 ≠ gb314) := ⟨h15_⟩
                    have n16_ : Aside0 (gb314 ≠ gb295) := ⟨h16_⟩
                    have n17_ : Aside0 (gb304 ≠ gb314) := ⟨h17_⟩
                    have n18_ : Aside0 (gb314 ≠ gb304) := ⟨h18_⟩
                    have n19_ : Aside0 (Below w.heap.size w w171) := ⟨h19_⟩
                    clear HO275
                    clear HO281
                    clear HO290
                    clear BK271
                    clear BK286
                    clear BK295
                    clear BK304
                    clear HB
                    clear h0_ h1_ h2_ h3_ h4_ h5_ h6_ h7_ h8_ h9_ h10_ h11_ h12_ h13_ h14_ h15_ h16_ h17_ h18_ h19_
                    have HO275 := n0_
                    have HO281 := n1_
                    have HO290 := n2_
                    have HO309 := n3_
                    have BK271 := n4_
                    have BK286 := n5_
                    have BK295 := n6_
                    have BK304 := n7_
                    have BK314 := n8_
                    have GW314 := n9_
                    have GE314 := n10_
                    have NB271_314 := n11_
                    have NB314_271 := n12_
                    have NB286_314 := n13_
                    have NB314_286 := n14_
                    have NB295_314 := n15_
                    have NB314_295 := n16_
                    have NB304_314 := n17_
                    have NB314_304 := n18_
                    have HB := n19_
                    clear n0_ n1_ n2_ n3_ n4_ n5_ n6_ n7_ n8_ n9_ n10_ n11_ n12_ n13_ n14_ n15_ n16_ n17_ n18_ n19_
                    have hHeld : w171.cell? ad277 = some (.int .u64 (rd t273 0)) ∧ w171.cell? ⟨ad277.block, ad277.off + 1, none⟩ = some (.int .u64 (rd t273 1)) := hS_
                    refine norm_ (a' := ?_) ?_ ?_
                    rotate_left
                    · simp only [putAll, Act.put, List.setIfInBounds_toArray, List.set_cons_zero, List.set_cons_succ]
                      rfl
                    refine one_ (i := 13) (N := none) #[true, true, true, true, true, true, true, true, true, true, true, true, true, true, false] rfl rfl (one_of HT_.out (by kernel_rfl)) (by decide) (fun K hK => ?_)
                    have hs172 : w171.cell? ⟨gb314, 0, none⟩ = some (.int .i64 0) := (blk_cell BK314.out 0).trans rfl
                    have hfs172 := blk_frozen BK314.out 0
                    have hns172_0 := NB271_314.out
                    have hns172_1 := NB286_314.out
                    have hns172_2 := NB295_314.out
                    have hns172_3 := NB304_314.out
                    have hms172_0 := NB314_271.out
                    have hms172_1 := NB314_286.out
                    have hms172_2 := NB314_295.out
                    have hms172_3 := NB314_304.out
                    have hs173 : w171.cell? ⟨gb314, 1, none⟩ = some (.int .i64 0) := (blk_cell BK314.out 1).trans rfl
                    have hfs173 := blk_frozen BK314.out 1
                    have hns173_0 := NB271_314.out
                    have hns173_1 := NB286_314.out
                    have hns173_2 := NB295_314.out
                    have hns173_3 := NB304_314.out
                    have hms173_0 := NB314_271.out
                    have hms173_1 := NB314_286.out
                    have hms173_2 := NB314_295.out
                    have hms173_3 := NB314_304.out
                    have hs174 : w171.cell? ⟨gb314, 2, none⟩ = some (.int .u64 0) := (blk_cell BK314.out 2).trans rfl
                    have hfs174 := blk_frozen BK314.out 2
                    have hns174_0 := NB271_314.out
                    have hns174_1 := NB286_314.out
                    have hns174_2 := NB295_314.out
                    have hns174_3 := NB304_314.out
                    have hms174_0 := NB314_271.out
                    have hms174_1 := NB314_286.out
                    have hms174_2 := NB314_295.out
                    have hms174_3 := NB314_304.out
                    refine skip_ (w1 := ?_) (by rfl) rfl ?_ ?_
                    rotate_left
                    · go_simp
                      rfl
                    have FAR_ : ad277.block ≠ gb314 := Kd.own_blk (Kd.R_ne HO275.out BK314.out (by decide))
                    refine hK.out _ _ ⟨by rw [cell_far (p := ⟨gb314, _, none⟩) FAR_, cell_far (p := ⟨gb314, _, none⟩) FAR_, cell_far (p := ⟨gb314, _, none⟩) FAR_]; exact hHeld.1, by rw [cell_far (a := ⟨ad277.block, _, none⟩) (p := ⟨gb314, _, none⟩) FAR_, cell_far (a := ⟨ad277.block, _, none⟩) (p := ⟨gb314, _, none⟩) FAR_, cell_far (a := ⟨ad277.block, _, none⟩) (p := ⟨gb314, _, none⟩) FAR_]; exact hHeld.2⟩ (fun hHeld => ?_)
                    clear hK K
                    refine pure_ (i := 14) (N := some 16) (v := ?_) (a' := ?_) #[true, true, true, true, true, true, true, true, true, true, true, true, true, true, true] rfl rfl (any_of HT_.out (by kernel_rfl)) (fun _ _ _ h => h) (Or.inl ⟨by rfl, ?_⟩) ?_ ?_
                    rotate_left
                    · intro w'
                      go_simp
                      with_reducible rfl
                    rotate_left
                    · simp only [Act.put, List.setIfInBounds_toArray, List.set_cons_zero, List.set_cons_succ, i64_w, i32_w]
                      rfl
                    refine done_ (done_of HT_.out (by kernel_rfl)) ?_
                    try go_wp2
                    go_ret
                    exact ⟨by first | rfl | (simp [errW_none, errW_some] <;> rfl) | (simp only [← hji8]; first | rfl | (simp [errW_none, errW_some] <;> rfl)) | (simp [*, errW_none, errW_some] <;> rfl), by repeat (first | (with_reducible first | exact HB.out | apply below_alloc | apply pw_below_drewN | apply below_drew1 | refine below_set ?_ GE271.out | refine below_set ?_ GE286.out | refine below_set ?_ GE295.out | refine below_set ?_ GE304.out | refine below_set ?_ GE314.out) | exact HB.out)⟩
            · replace c15 := Bool.eq_false_iff.mpr c15
              subst c15
              have H1 : (none) = some r := by rw [if_neg (show ¬ (false = true) by decide)] at H; exact H
              clear H
              have H := H1
              clear H1
              exact absurd H (by simp)
          · rw [if_neg c12] at H
            exact absurd H (by simp)
        · rw [if_neg c9] at H
          exact absurd H (by simp)
      · rw [if_neg c7] at H
        exact absurd H (by simp)
    · rw [if_neg c6] at H
      have c6b0 : ((t273.length : Int) == 2) = false := beq_eq_false_iff_ne.mpr c6
      have c6b1 : ((t273.length : Int) != 2) = true := bne_iff_ne.mpr c6
      exact absurd H (by simp)
  · rw [if_neg c5] at H
    have c5b0 : (t276 == 0) = false := beq_eq_false_iff_ne.mpr c5
    have c5b1 : (t276 != 0) = true := bne_iff_ne.mpr c5
    by_cases c219 : t272 = true
    · subst c219
      have H1 : (none) = some r := by rw [if_pos rfl] at H; exact H
      clear H
      have H := H1
      clear H1
      exact absurd H (by simp)
    · replace c219 := Bool.eq_false_iff.mpr c219
      subst c219
      have H1 : (none) = some r := by rw [if_neg (show ¬ (false = true) by decide)] at H; exact H
      clear H
      have H := H1
      clear H1
      exact absurd H (by simp)

end Go.Proofs.YtlbgepadkaehiaaDoor.Q
