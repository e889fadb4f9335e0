import Derived.Test.YtflbmccjfnkflaaDoorStTileOne
import Derived.Test.YtflbmccjfnkflaaDoorTileBlocks
set_option linter.unusedVariables false
set_option linter.unusedSimpArgs false
namespace Go.Proofs.YtflbmccjfnkflaaDoor.Pure
open Go.RowKit Go.Proofs.YtflbmccjfnkflaaDoor.Q Go.Proofs.YtflbmccjfnkflaaDoorW.PrintWords Go.Proofs.YtflbmccjfnkflaaDoorW.PrintLast
theorem awake_20 : lockfastlaw11_awake.f 20 = some true := by decide +kernel
theorem awake_ev : Ev (fun k => lockfastlaw11_awake.f k) true := Ev.of (fun k => lockfastlaw11_awake.mono k) awake_20
theorem refBlock_eq (c : Int) : lockfastref09_Block.f c = some (blockW c) := by
  unfold lockfastref09_Block.f blockW
  split
  · rfl
  · split
    · rfl
    · split <;> rfl
/-! a bit of a word -/
theorem or_word (lo b k : Nat) (hlo : lo < 2 ^ 24) : (lo + 2 ^ 24 * b) ||| 2 ^ (24 + k) = lo + 2 ^ 24 * (b ||| 2 ^ k) := by
  apply Nat.eq_of_testBit_eq
  intro j
  rw [Nat.add_comm lo, Nat.add_comm lo, Nat.testBit_or, Nat.testBit_two_pow_mul_add _ hlo, Nat.testBit_two_pow_mul_add _ hlo, Nat.testBit_two_pow]
  split
  · rw [decide_eq_false (by omega), Bool.or_false]
  · rw [Nat.testBit_or, Nat.testBit_two_pow]
    congr 1
    exact decide_eq_decide.2 (by omega)
theorem not_word (lo b k : Nat) (hlo : lo < 2 ^ 24) (hb : b < 256) (hk : k < 8) : (lo + 2 ^ 24 * b) &&& (18446744073709551615 - 2 ^ (24 + k)) = lo + 2 ^ 24 * (b &&& (255 - 2 ^ k)) := by
  have h1 : 2 ^ (24 + k) < 2 ^ 64 := Nat.pow_lt_pow_right (by decide) (by omega)
  have h2 : 2 ^ k < 2 ^ 8 := Nat.pow_lt_pow_right (by decide) hk
  have e1 : 18446744073709551615 - 2 ^ (24 + k) = 2 ^ 64 - (2 ^ (24 + k) + 1) := by omega
  have e2 : 255 - 2 ^ k = 2 ^ 8 - (2 ^ k + 1) := by omega
  apply Nat.eq_of_testBit_eq
  intro j
  rw [Nat.add_comm lo, Nat.add_comm lo, Nat.testBit_and, Nat.testBit_two_pow_mul_add _ hlo, Nat.testBit_two_pow_mul_add _ hlo, e1, Nat.testBit_two_pow_sub_succ h1, Nat.testBit_two_pow]
  split
  · rw [decide_eq_true (by omega : j < 64), decide_eq_false (by omega : ¬ 24 + k = j)]; simp
  · rw [Nat.testBit_and, e2, Nat.testBit_two_pow_sub_succ h2, Nat.testBit_two_pow]
    by_cases h8 : j - 24 < 8
    · rw [decide_eq_true h8, decide_eq_true (by omega : j < 64)]
      congr 3
      exact decide_eq_decide.2 (by omega)
    · have : b.testBit (j - 24) = false := Nat.testBit_lt_two_pow (Nat.lt_of_lt_of_le hb (by rw [show 256 = 2 ^ 8 by rfl]; exact Nat.pow_le_pow_right (by decide) (by omega)))
      rw [this]; simp
def withB (c : Chk) (b : Nat) : Chk := ⟨c.f0, c.f1, c.f2, c.f3, (b : Int)⟩
theorem encC_split {c : Chk} (hc : okC c) (b : Nat) (hb : b < 256) : ∃ lo : Nat, lo < 2 ^ 24 ∧ ∀ b : Nat, encC (withB c b) = ((lo + 2 ^ 24 * b : Nat) : Int) := by
  have hr := okC_range hc
  refine ⟨(c.f0 + 8 * c.f1 + 32 * c.f2 + 2048 * c.f3).toNat, by omega, fun b => ?_⟩
  unfold encC withB
  simp only []
  omega
theorem bitAt_nat (b j : Nat) (hb : b < 256) : bitAt (b : Int) j = b.testBit j := by
  unfold bitAt
  have e : (b : Int) / 2 ^ j = ((b / 2 ^ j : Nat) : Int) := by norm_cast
  have hle : b / 2 ^ j ≤ b := Nat.div_le_self _ _
  rw [e]
  have := bits_and (b / 2 ^ j) 1 (by omega) (by omega)
  rw [show ((1 : Nat) : Int) = 1 from rfl] at this
  rw [this, Nat.and_one_is_mod, Nat.testBit_eq_decide_div_mod_eq]
  rw [Bool.eq_iff_iff]; simp; omega
theorem ones_split (b b1 b0 m k : Nat) (hk : k < m) (hb1 : b1 < 256) (hb0 : b0 < 256) (h1 : b1.testBit k = true) (h0 : b0.testBit k = false) (he : ∀ j, j ≠ k → b1.testBit j = b0.testBit j) :
    ∃ X Y : List Nat, ones (b1 : Int) m = X ++ k :: Y ∧ ones (b0 : Int) m = X ++ Y ∧ (∀ x ∈ X, x ≠ k) ∧ (∀ x ∈ Y, x ≠ k) := by
  have hr : List.range m = List.range k ++ k :: (List.range' (k + 1) (m - (k + 1))) := by
    have h := List.range'_append_1 (s := 0) (m := k) (n := m - k)
    rw [Nat.add_sub_cancel' (Nat.le_of_lt hk), Nat.zero_add, show m - k = (m - (k + 1)) + 1 by omega, List.range'_succ] at h
    rw [List.range_eq_range', List.range_eq_range']
    exact h.symm
  have hf : ∀ l : List Nat, (∀ x ∈ l, x ≠ k) → l.filter (bitAt (b1 : Int)) = l.filter (bitAt (b0 : Int)) := fun l hl => by
    refine List.filter_congr ?_
    intro x hx
    rw [bitAt_nat _ _ hb1, bitAt_nat _ _ hb0, he x (hl x hx)]
  have hX : ∀ x ∈ List.range k, x ≠ k := fun x hx => by rw [List.mem_range] at hx; omega
  have hY : ∀ x ∈ List.range' (k + 1) (m - (k + 1)), x ≠ k := fun x hx => by rw [List.mem_range'_1] at hx; omega
  refine ⟨(List.range k).filter (bitAt (b0 : Int)), (List.range' (k + 1) (m - (k + 1))).filter (bitAt (b0 : Int)), ?_, ?_, fun x hx => hX x ((List.mem_filter.1 hx).1), fun x hx => hY x ((List.mem_filter.1 hx).1)⟩
  · unfold ones
    rw [hr, List.filter_append, List.filter_cons, if_pos (by rw [bitAt_nat _ _ hb1]; exact h1), hf _ hX, hf _ hY]
  · unfold ones
    rw [hr, List.filter_append, List.filter_cons, if_neg (by rw [bitAt_nat _ _ hb0, h0]; simp)]
/-- Two lists, one of which has one thing more, side by side. -/
theorem one_l0 (i k cl : Int) (c0 c2 c3 c4 : Int) (X Y : List Blk) (hl : X.length + Y.length ≤ 1048576) (B : Blk) (hB : B = ⟨i, k, blockW cl⟩) (hX : ∀ x ∈ X, x ≠ B) (hY : ∀ x ∈ Y, x ≠ B) :
    ∀ (d j : Nat), X.length + Y.length + 1 - j = d → j ≤ X.length + Y.length + 1 →
    Ev (fun n => lockfastlaw11_TileOne.l0 n true i k (X ++ B :: Y) (X ++ Y) (if j ≤ X.length then 0 else 1) (j : Int) c0 cl c2 c3 c4) true := by
  have hla : (X ++ B :: Y).length = X.length + Y.length + 1 := by simp; omega
  have hlb : (X ++ Y).length = X.length + Y.length := by simp
  have hne : ∀ x : Blk, x ≠ B → ((x.f0 == i) && ((x.f1 == k) && (x.f2 == blockW cl))) = false := by
    intro x hx
    rw [Bool.eq_false_iff]
    intro h
    simp only [Bool.and_eq_true, beq_iff_eq] at h
    apply hx
    rw [hB]
    obtain ⟨a, b, c⟩ := x
    obtain ⟨h1, h2, h3⟩ := h
    simp at h1 h2 h3
    rw [h1, h2, h3]
  intro d
  induction d with
  | zero =>
    intro j hd hj
    obtain rfl : j = X.length + Y.length + 1 := by omega
    refine ev_next (f := fun _ => some true) (fun n => ?_) (ev_some _)
    simp only [lockfastlaw11_TileOne.l0]
    rw [if_neg (by omega), if_pos (by trivial), if_neg (by omega)]
    rfl
  | succ d ih =>
    intro j hd hj
    have hlt : j < (X ++ B :: Y).length := by omega
    refine ev_next (fun n => ?_) (ih (j + 1) (by omega) (by omega))
    simp only [lockfastlaw11_TileOne.l0]
    rw [if_pos (by omega), if_pos (by omega), refBlock_eq, Option.bind_some, rdB _ j hlt]
    rcases Nat.lt_trichotomy j X.length with hx | hx | hx
    · have e : (X ++ B :: Y)[j] = X[j] := List.getElem_append_left hx
      have e2 : (X ++ Y)[j]'(by omega) = X[j] := List.getElem_append_left hx
      rw [e, hne _ (hX _ (List.getElem_mem hx)), if_neg (by simp), if_pos (show j ≤ X.length by omega), if_pos (show j + 1 ≤ X.length by omega), w64 (x := (j : Int) - 0) (by omega), if_neg (by omega), if_pos (by omega), if_pos (by omega)]
      rw [show (j : Int) - 0 = (j : Int) by omega, rdB _ j (by omega), e2, if_neg (by simp), w64 (by omega)]
      rfl
    · subst hx
      have e : (X ++ B :: Y)[X.length] = B := by simp
      rw [e, hB, if_pos (by simp), if_pos (show X.length ≤ X.length by omega), if_neg (show ¬ X.length + 1 ≤ X.length by omega), w64 (by omega), w64 (by omega)]
      rfl
    · have e : (X ++ B :: Y)[j] = Y[j - X.length - 1]'(by omega) := by
        rw [List.getElem_append_right (by omega)]
        simp only [List.getElem_cons]
        rw [dif_neg (by omega)]
      have e2 : (X ++ Y)[j - 1]'(by omega) = Y[j - X.length - 1]'(by omega) := by
        rw [List.getElem_append_right (by omega)]
        congr 1; omega
      rw [e, hne _ (hY _ (List.getElem_mem _)), if_neg (by simp), if_neg (show ¬ j ≤ X.length by omega), if_neg (show ¬ j + 1 ≤ X.length by omega), w64 (x := (j : Int) - 1) (by omega), if_neg (by omega), if_pos (by omega), if_pos (by omega)]
      rw [show (j : Int) - 1 = ((j - 1 : Nat) : Int) by omega, rdB _ (j - 1) (by omega), e2, if_neg (by simp), w64 (by omega)]
      rfl
theorem manyW_cases {c : Chk} (hc : okC c) (h : c.f0 = 1) : ∃ m : Nat, manyW c.f1 = (m : Int) ∧ 0 < m ∧ m ≤ 8 ∧ (c.f4 < ((2 ^ m : Nat) : Int)) ∧ ∀ b : Nat, b < 2 ^ m → okC (withB c b) := by
  obtain ⟨h2, h3, h4⟩ := okC_run hc h
  rcases h4 with ⟨h5, h6⟩ | ⟨h5, h6⟩ | ⟨h5, h6⟩
  · refine ⟨8, by rw [h5]; rfl, by omega, by omega, h6, fun b hb => ⟨?_, Int.natCast_nonneg _⟩⟩
    simp [refRight, withB, h, h2, h3, h5]; omega
  · refine ⟨4, by rw [h5]; rfl, by omega, by omega, h6, fun b hb => ⟨?_, Int.natCast_nonneg _⟩⟩
    simp [refRight, withB, h, h2, h3, h5]; omega
  · refine ⟨2, by rw [h5]; rfl, by omega, by omega, h6, fun b hb => ⟨?_, Int.natCast_nonneg _⟩⟩
    simp [refRight, withB, h, h2, h3, h5]; omega
theorem bit_eq (k : Nat) (h : k < 8) : chunk_Bit.f (k : Int) = some ((2 ^ (24 + k) : Nat) : Int) := by
  have : ∀ k, k < 8 → chunk_Bit.f ((k : Nat) : Int) = some ((2 ^ (24 + k) : Nat) : Int) := by decide +kernel
  exact this k h
theorem TileOne : lockfastlaw11_TileOne.Fact := by
  intro l x1 x2 _ _ hu h1 h2
  suffices h : Ev (fun k => lockfastlaw11_TileOne.f k l x1 x2) true from h.rounds
  have hu : ∀ x ∈ l, 0 ≤ x ∧ x ≤ 65535 := fun x hx => u16_range (hu x hx)
  have h1 := u8_range h1
  have h2 := u8_range h2
  unfold lockfastlaw11_TileOne.f
  refine Ev.bind awake_ev ?_
  by_cases h3 : (l.length : Int) > 60
  · exact Ev.congr (fun k => by rw [if_pos h3]) (ev_some _)
  · refine Ev.congr (fun k => by rw [if_neg h3]) ?_
    obtain ⟨cs, ht, hlen, hev⟩ := made_ev l 40 (by omega) (by omega) hu
    refine Ev.bind hev ?_
    by_cases h4 : cs.length = 0
    · exact Ev.congr (fun k => by rw [if_pos (by rw [List.length_map]; omega)]) (ev_some _)
    · have hmod : Int.tmod (wrap64 x1) ((cs.map encC).length : Int) = x1 % (cs.length : Int) := by
        rw [w64 (by omega), List.length_map, Int.tmod_eq_emod_of_nonneg h1.1]
      have hr0 := Int.emod_nonneg x1 (show (cs.length : Int) ≠ 0 by omega)
      have hr1 := Int.emod_lt_of_pos x1 (show (0 : Int) < cs.length by omega)
      obtain ⟨i, hi⟩ : ∃ i : Nat, x1 % (cs.length : Int) = (i : Int) := ⟨(x1 % (cs.length : Int)).toNat, by omega⟩
      rw [hi] at hmod hr1
      have hlt : i < cs.length := by omega
      have hc := ht.ok _ (List.getElem_mem hlt)
      have hrd : rd (cs.map encC) (i : Int) = encC cs[i] := by rw [rdI _ _ (by simpa using hlt)]; simp
      have hu64 := U64_enc cs ht.ok (encC cs[i]) (List.mem_map.2 ⟨_, List.getElem_mem hlt, rfl⟩)
      refine Ev.congr (fun k => by
        rw [if_neg (by rw [List.length_map]; omega), hmod, if_pos (by omega), if_pos (by rw [List.length_map]; omega), hrd, decode_int _ hu64, decT_enc hc, Option.bind_some, if_pos (by trivial)]) ?_
      by_cases h5 : cs[i].f0 = 1
      · obtain ⟨m, hm, hm0, hm8, hb4, hokb⟩ := manyW_cases hc h5
        refine Ev.congr (fun k => by rw [if_pos (show cs[i].f0 = 1 from h5)]) ?_
        obtain ⟨_, _, h6⟩ := okC_run hc h5
        refine Ev.bind (many_ev cs[i].f1 (by omega)) ?_
        have hmod2 : Int.tmod (wrap64 x2) (manyW cs[i].f1) = x2 % (m : Int) := by
          rw [hm, w64 (by omega), Int.tmod_eq_emod_of_nonneg h2.1]
        have hk0 := Int.emod_nonneg x2 (show (m : Int) ≠ 0 by omega)
        have hk1 := Int.emod_lt_of_pos x2 (show (0 : Int) < m by omega)
        obtain ⟨k, hk⟩ : ∃ k : Nat, x2 % (m : Int) = (k : Int) := ⟨(x2 % (m : Int)).toNat, by omega⟩
        rw [hk] at hmod2 hk1
        have hkm : k < m := by omega
        obtain ⟨b, hb⟩ : ∃ b : Nat, cs[i].f4 = (b : Int) := ⟨cs[i].f4.toNat, by have := hc.2; omega⟩
        have h2m : 2 ^ m ≤ 256 := by
          have := Nat.pow_le_pow_right (show 0 < 2 by decide) hm8
          simpa using this
        have hbm : b < 2 ^ m := by omega
        have hself : withB cs[i] b = cs[i] := by unfold withB; rw [← hb]
        obtain ⟨lo, hlo, henc⟩ := encC_split hc b (by omega)
        have hw := henc b
        rw [hself] at hw
        have hlt64 : lo + 2 ^ 24 * b < 18446744073709551616 := by omega
        have hp64 : 2 ^ (24 + k) < 18446744073709551616 := by
          have h := Nat.pow_lt_pow_right (a := 2) (by decide) (show 24 + k < 64 by omega)
          simpa using h
        have hor := bits_or (lo + 2 ^ 24 * b) (2 ^ (24 + k)) hlt64 hp64
        rw [or_word lo b k hlo, ← hw, ← henc] at hor
        have hno := bits_andNot (lo + 2 ^ 24 * b) (2 ^ (24 + k)) hlt64 hp64
        rw [not_word lo b k hlo (by omega) (by omega), ← hw, ← henc] at hno
        have hb1 : b ||| 2 ^ k < 2 ^ m := Nat.or_lt_two_pow hbm (Nat.pow_lt_pow_right (by decide) hkm)
        have hb0 : b &&& (255 - 2 ^ k) < 2 ^ m := Nat.lt_of_le_of_lt Nat.and_le_left hbm
        have hset : ∀ c : Chk, (cs.map encC).set i (encC c) = (cs.set i c).map encC := fun c => by rw [List.map_set]
        have hok' : ∀ c : Chk, okC c → ∀ x ∈ cs.set i c, okC x := fun c hx x hm => by
          rcases List.mem_or_eq_of_mem_set hm with h | h
          · exact ht.ok x h
          · rw [h]; exact hx
        have hbl : ∀ c : Chk, okC c → Ev (fun k => tile_Blocks.f k ((cs.map encC).set i (encC c))) (blkAll (cs.set i c)) := fun c hx => by
          rw [hset]
          have := blocks_ev ((cs.set i c).map encC) (by rw [List.length_map, List.length_set]; omega) (U64_enc _ (hok' c hx))
          rwa [chV_enc _ (hok' c hx)] at this
        refine Ev.congr (fun n => by
          rw [if_neg (by omega), hmod2, Option.bind_some, if_pos (by simp; omega), Option.bind_some, bit_eq k (by omega), Option.bind_some, if_pos (by simp; omega), Option.bind_some, if_pos (by simp; omega), Option.bind_some, Option.bind_some, if_pos (by simp; omega), List.nil_append, Int.toNat_natCast, hor, hno]) ?_
        refine Ev.bind (hbl _ (hokb _ hb1)) (Ev.bind (hbl _ (hokb _ hb0)) ?_)
        -- the two lists of blocks
        obtain ⟨X, Y, hX, hY, hXk, hYk⟩ := ones_split b (b ||| 2 ^ k) (b &&& (255 - 2 ^ k)) m k hkm (by omega) (by omega)
          (by rw [Nat.testBit_or, Nat.testBit_two_pow]; simp)
          (by
            have h2 : 2 ^ k < 2 ^ 8 := Nat.pow_lt_pow_right (by decide) (by omega)
            rw [Nat.testBit_and, show 255 - 2 ^ k = 2 ^ 8 - (2 ^ k + 1) by omega, Nat.testBit_two_pow_sub_succ h2, Nat.testBit_two_pow]; simp)
          (by
            intro j hj
            have h2 : 2 ^ k < 2 ^ 8 := Nat.pow_lt_pow_right (by decide) (by omega)
            rw [Nat.testBit_or, Nat.testBit_and, show 255 - 2 ^ k = 2 ^ 8 - (2 ^ k + 1) by omega, Nat.testBit_two_pow_sub_succ h2, Nat.testBit_two_pow, decide_eq_false (fun h => hj h.symm)]
            by_cases h8 : j < 8
            · simp [h8]
            · have : b.testBit j = false := Nat.testBit_lt_two_pow (Nat.lt_of_lt_of_le hbm (Nat.pow_le_pow_right (by decide) (by omega)))
              simp [this])
        have hblk : ∀ b' : Nat, blkAll (cs.set i (withB cs[i] b')) = blkFrom 0 (cs.take i) ++ ((ones (b' : Int) m).map (fun (q : Nat) => mkB i cs[i].f1 (q : Int)) ++ blkFrom (i + 1) (cs.drop (i + 1))) := by
          intro b'
          rw [List.set_eq_take_append_cons_drop, if_pos hlt, blkAll_from, blkFrom_append, blkFrom_cons]
          have hl : (cs.take i).length = i := by rw [List.length_take]; omega
          rw [hl, Nat.zero_add]
          congr 1
          congr 1
          unfold blkOne huge withB
          simp only []
          rw [if_neg (by omega), List.nil_append]
          unfold onesI
          rw [List.map_map, hm, show (max 0 (min (m : Int) 64)).toNat = m by omega]
          rfl
        rw [hblk, hblk, hX, hY]
        obtain ⟨P, hP⟩ : ∃ P, blkFrom 0 (cs.take i) = P := ⟨_, rfl⟩
        obtain ⟨Q, hQ⟩ : ∃ Q, blkFrom (i + 1) (cs.drop (i + 1)) = Q := ⟨_, rfl⟩
        have hPl : P.length ≤ 9 * 40 := by
          have := blkAll_len (cs.take i)
          rw [blkAll_from, hP, List.length_take] at this; omega
        have hQl : Q.length ≤ 9 * 40 := by
          have := blkAll_len (cs.drop (i + 1))
          rw [blkAll_from, List.length_drop] at this
          have e := blkFrom_sh (cs.drop (i + 1)) 0 (i + 1)
          rw [Nat.zero_add, hQ] at e
          rw [e, List.length_map]; omega
        have hPn : ∀ x ∈ P, x.f0 < (i : Int) := fun x hx => by
          rw [← hP] at hx
          have := blkFrom_at _ 0 x hx
          rw [List.length_take] at this; omega
        have hQn : ∀ x ∈ Q, (i : Int) < x.f0 := fun x hx => by
          rw [← hQ] at hx
          have := blkFrom_at _ _ x hx
          omega
        have hXl : X.length + 1 + Y.length ≤ 64 := by
          have h1 := ones_length ((b ||| 2 ^ k : Nat) : Int) m
          rw [hX] at h1
          simp at h1; omega
        rw [hP, hQ]
        have e1 : P ++ ((X ++ k :: Y).map (fun (q : Nat) => mkB i cs[i].f1 (q : Int)) ++ Q) = (P ++ X.map (fun (q : Nat) => mkB i cs[i].f1 (q : Int))) ++ mkB i cs[i].f1 (k : Int) :: (Y.map (fun (q : Nat) => mkB i cs[i].f1 (q : Int)) ++ Q) := by simp
        have e0 : P ++ ((X ++ Y).map (fun (q : Nat) => mkB i cs[i].f1 (q : Int)) ++ Q) = (P ++ X.map (fun (q : Nat) => mkB i cs[i].f1 (q : Int))) ++ (Y.map (fun (q : Nat) => mkB i cs[i].f1 (q : Int)) ++ Q) := by simp
        rw [e1, e0]
        refine Ev.congr (fun n => by rw [if_pos (by rw [w64 (by simp; omega)]; simp; omega)]) ?_
        have h := one_l0 (i : Int) (k : Int) cs[i].f1 cs[i].f0 cs[i].f2 cs[i].f3 cs[i].f4 (P ++ X.map (fun (q : Nat) => mkB i cs[i].f1 (q : Int))) (Y.map (fun (q : Nat) => mkB i cs[i].f1 (q : Int)) ++ Q) (by simp; omega) (mkB i cs[i].f1 (k : Int)) rfl
          (by
            intro x hx e
            rcases List.mem_append.1 hx with hx | hx
            · have := hPn x hx
              rw [e] at this
              exact absurd this (by show ¬ (i : Int) < i; omega)
            · obtain ⟨q, hq, rfl⟩ := List.mem_map.1 hx
              have hh : (q : Int) = (k : Int) := congrArg (fun (z : Blk) => z.f1) e
              exact hXk q hq (by omega))
          (by
            intro x hx e
            rcases List.mem_append.1 hx with hx | hx
            · obtain ⟨q, hq, rfl⟩ := List.mem_map.1 hx
              have hh : (q : Int) = (k : Int) := congrArg (fun (z : Blk) => z.f1) e
              exact hYk q hq (by omega)
            · have := hQn x hx
              rw [e] at this
              exact absurd this (by show ¬ (i : Int) < i; omega))
          _ 0 rfl (by omega)
        rw [if_pos (by omega)] at h
        exact h
      · exact Ev.congr (fun k => by rw [if_neg (show ¬ cs[i].f0 = 1 from h5)]) (ev_some _)
end Go.Proofs.YtflbmccjfnkflaaDoor.Pure
