import Derived.Test.YtflbmccjfnkflaaDoorStTileWhole
import Derived.Test.YtflbmccjfnkflaaDoorTileTell
set_option linter.unusedVariables false
set_option linter.unusedSimpArgs false
namespace Go.Proofs.YtflbmccjfnkflaaDoor.Pure
open Go.RowKit Go.Sort Go.Proofs.YtflbmccjfnkflaaDoor.StableSort Go.Proofs.YtflbmccjfnkflaaDoor.Q Go.Proofs.YtflbmccjfnkflaaDoorW.PrintWords Go.Proofs.YtflbmccjfnkflaaDoorW.PrintLast
theorem awake_20 : lockfastlaw11_awake.f 20 = some true := by decide +kernel
theorem awake_ev : Ev (fun k => lockfastlaw11_awake.f k) true := Ev.of (fun k => lockfastlaw11_awake.mono k) awake_20
theorem wi64 (a : Nat) (h : a < 4611686018427387904) : IntKind.i64.wrap (a : Int) = a := by rw [IntKind.wrap_i64]; omega
theorem ofInt64i (a : Nat) (h : a < 4611686018427387904) : (BitVec.ofInt IntKind.i64.bits (a : Int)).toNat = a := by
  simp only [IntKind.bits]
  rw [BitVec.toNat_ofInt]
  omega
theorem bitsi_and (a b : Nat) (ha : a < 4611686018427387904) (hb : b < 4611686018427387904) : Go.bits .and .i64 (a : Int) (b : Int) = ((a &&& b : Nat) : Int) := by
  unfold Go.bits
  simp only [BitVec.toNat_and, ofInt64i a ha, ofInt64i b hb]
  exact wi64 _ (Nat.lt_of_le_of_lt Nat.and_le_left ha)
theorem bitsi_or (a b : Nat) (ha : a < 4611686018427387904) (hb : b < 4611686018427387904) : Go.bits .or .i64 (a : Int) (b : Int) = ((a ||| b : Nat) : Int) := by
  unfold Go.bits
  simp only [BitVec.toNat_or, ofInt64i a ha, ofInt64i b hb]
  exact wi64 _ (Nat.or_lt_two_pow (n := 62) ha hb)
theorem shri (a j : Nat) (hj : j < 64) : shr .i64 (a : Int) (j : Int) = ((a / 2 ^ j : Nat) : Int) := by
  unfold shr
  simp only [Int.toNat_natCast, IntKind.bits, Nat.min_eq_left (Nat.le_of_lt hj)]
  norm_cast
theorem shli (j : Nat) (hj : j < 32) : shl .i64 1 (j : Int) = ((2 ^ j : Nat) : Int) := by
  unfold shl
  simp only [Int.toNat_natCast, IntKind.bits, Nat.min_eq_left (show j ≤ 64 by omega)]
  rw [Int.one_mul]
  have e3 : ((2 : Int) ^ j) = ((2 ^ j : Nat) : Int) := by norm_cast
  rw [e3]
  exact wi64 _ (Nat.lt_of_le_of_lt (Nat.pow_le_pow_right (by decide) (show j ≤ 32 by omega)) (by decide))
theorem bit_test (v j : Nat) (hv : v < 16777216) (hj : j < 64) : (Go.bits .and .i64 (shr .i64 (v : Int) (j : Int)) 1 = 1) ↔ v.testBit j = true := by
  rw [shri v j hj, show (1 : Int) = ((1 : Nat) : Int) from rfl, bitsi_and _ _ (Nat.lt_of_le_of_lt (Nat.div_le_self _ _) (by omega)) (by omega)]
  have e : v.testBit j = decide (v / 2 ^ j &&& 1 = 1) := by
    rw [Nat.testBit, Nat.shiftRight_eq_div_pow, Nat.and_comm, Nat.and_one_is_mod]
    rcases Nat.mod_two_eq_zero_or_one (v / 2 ^ j) with h | h <;> simp [h]
  rw [e, decide_eq_true_eq]
  omega
/-! what was seen, as a function of the place -/
def upd (f : Nat → Int) (i : Nat) (v : Int) : Nat → Int := fun p => if p = i then v else f p
def seenL (n : Nat) (f : Nat → Int) : List Int := (List.range n).map f
theorem seenL_len (n : Nat) (f : Nat → Int) : (seenL n f).length = n := by simp [seenL]
theorem seenL_rd (n : Nat) (f : Nat → Int) (p : Nat) (h : p < n) : rd (seenL n f) (p : Int) = f p := by
  rw [rdI _ p (by rw [seenL_len]; exact h)]
  simp [seenL]
theorem seenL_set (n : Nat) (f : Nat → Int) (i : Nat) (v : Int) : (seenL n f).set i v = seenL n (upd f i v) := by
  apply List.ext_getElem
  · simp [seenL]
  · intro p h1 h2
    simp only [seenL, List.getElem_set, List.getElem_map, List.getElem_range, upd]
    by_cases h : i = p
    · rw [if_pos h, if_pos h.symm]
    · rw [if_neg h, if_neg (fun e => h e.symm)]
theorem seenL_zero (n : Nat) : List.replicate n (0 : Int) = seenL n (fun _ => 0) := by
  apply List.ext_getElem
  · simp [seenL]
  · intro p h1 h2; simp [seenL]
/-! the last loop -/
theorem whole_l6 (t : List Int) (n : Nat) (ht : t.length = n) (hn : n ≤ 40) (f : Nat → Int) (hf : ∀ q, q < n → f q ≠ 0) : ∀ (d i : Nat), n - i = d → i ≤ n → Ev (fun k => lockfastlaw11_TileWhole.l6 k true t (seenL (n + 1) f) (i : Int)) true := by
  intro d
  induction d with
  | zero =>
    intro i hd hi
    obtain rfl : i = n := by omega
    exact ev_next (f := fun _ => some true) (fun k => by simp only [lockfastlaw11_TileWhole.l6]; rw [if_neg (by omega)]) (ev_some _)
  | succ d ih =>
    intro i hd hi
    refine ev_next (fun k => ?_) (ih (i + 1) (by omega) (by omega))
    simp only [lockfastlaw11_TileWhole.l6]
    rw [if_pos (by omega), if_pos (by omega), if_pos (by rw [seenL_len]; omega), seenL_rd _ _ i (by omega), if_neg (hf i (by omega)), w64 (by omega)]
    rfl
/-! the logs -/
theorem whole_l5 (t : List Int) (n : Nat) (ht : t.length = n) (hn : n ≤ 40) (lane : Int) (L : List Int) (hLn : L.length ≤ 40) (hL : ∀ z ∈ L, 0 ≤ z ∧ z < (n : Int)) (hnd : L.Nodup) {r : Bool} : ∀ (d j : Nat) (f : Nat → Int), L.length - j = d → j ≤ L.length → (∀ q : Nat, (q : Int) ∈ L.drop j → f q = 0) →
    ∃ f' : Nat → Int, (∀ q : Nat, (q : Int) ∉ L.drop j → f' q = f q) ∧ (∀ q : Nat, (q : Int) ∈ L.drop j → f' q ≠ 0) ∧
      (Ev (fun k => lockfastlaw11_TileWhole.l4 k true t (seenL (n + 1) f') (wrap64 (lane + 1))) r → Ev (fun k => lockfastlaw11_TileWhole.l5 k true t (seenL (n + 1) f) lane L (L.length : Int) (j : Int)) r) := by
  intro d
  induction d with
  | zero =>
    intro j f hd hj hz
    obtain rfl : j = L.length := by omega
    rw [List.drop_length]
    refine ⟨f, fun _ _ => rfl, fun q h => (by cases h), fun h => ev_next (fun k => ?_) h⟩
    simp only [lockfastlaw11_TileWhole.l5]
    rw [if_neg (by omega)]
  | succ d ih =>
    intro j f hd hj hz
    have hlt : j < L.length := by omega
    rw [List.drop_eq_getElem_cons hlt] at hz ⊢
    obtain ⟨z, hzz⟩ : ∃ z : Nat, L[j] = (z : Int) := ⟨L[j].toNat, by have := hL _ (List.getElem_mem hlt); omega⟩
    have hzn : (z : Int) < (n : Int) := by rw [← hzz]; exact (hL _ (List.getElem_mem hlt)).2
    have hnd2 : L[j] ∉ L.drop (j + 1) := by
      have h := hnd.sublist (List.drop_sublist j L)
      rw [List.drop_eq_getElem_cons hlt] at h
      exact (List.nodup_cons.1 h).1
    have hz0 : f z = 0 := hz z (by rw [hzz]; exact List.mem_cons_self)
    obtain ⟨f', h1, h2, h3⟩ := ih (j + 1) (upd f z 8) (by omega) (by omega) (fun q hq => by
      unfold upd
      rw [if_neg (fun e => by subst e; rw [hzz] at hnd2; exact hnd2 hq)]
      exact hz q (List.mem_cons_of_mem _ hq))
    refine ⟨f', fun q hq => ?_, fun q hq => ?_, fun h => ev_next (fun k => ?_) (h3 h)⟩
    · rw [h1 q (fun h => hq (List.mem_cons_of_mem _ h))]
      unfold upd
      rw [if_neg (fun e => hq (by rw [e, hzz]; exact List.mem_cons_self))]
    · rcases List.mem_cons.1 hq with e | hq
      · have : q = z := by rw [hzz] at e; omega
        subst this
        rw [h1 q (by rw [← hzz]; exact hnd2)]
        unfold upd
        rw [if_pos rfl]
        decide
      · exact h2 q hq
    · simp only [lockfastlaw11_TileWhole.l5]
      rw [if_pos (by omega), if_pos (by omega), if_pos (by omega), rdI L j hlt, hzz, if_neg (by omega), if_neg (by omega), if_pos (by omega), if_pos (by rw [seenL_len]; omega), seenL_rd _ _ z (by omega), if_pos hz0, Int.toNat_natCast, seenL_set, w64 (by omega)]
      rfl
theorem whole_l4 (t : List Int) (n : Nat) (ht : t.length = n) (hn : n ≤ 40) (cs : List Chk) (htc : t = cs.map encC) (hcs : cs.length = n) (hok : ∀ c ∈ cs, okC c) {r : Bool} : ∀ (d lane : Nat) (f : Nat → Int), 64 - lane = d → lane ≤ 64 →
    (∀ q : Nat, ∀ h : q < cs.length, cs[q].f0 = 4 → (lane : Int) ≤ cs[q].f2 → f q = 0) →
    ∃ f' : Nat → Int, (∀ q : Nat, f q ≠ 0 → f' q ≠ 0) ∧ (∀ q : Nat, ∀ h : q < cs.length, cs[q].f0 = 4 → (lane : Int) ≤ cs[q].f2 → f' q ≠ 0) ∧
      (Ev (fun k => lockfastlaw11_TileWhole.l6 k true t (seenL (n + 1) f') 0) r → Ev (fun k => lockfastlaw11_TileWhole.l4 k true t (seenL (n + 1) f) (lane : Int)) r) := by
  intro d
  induction d with
  | zero =>
    intro lane f hd hl hz
    obtain rfl : lane = 64 := by omega
    refine ⟨f, fun _ h => h, fun q h h4 h5 => ?_, fun h => ev_next (fun k => ?_) h⟩
    · have := okC_log (hok _ (List.getElem_mem h)) h4
      omega
    · simp only [lockfastlaw11_TileWhole.l4]
      rw [if_neg (by omega)]
  | succ d ih =>
    intro lane f hd hl hz
    have hU := U64_enc cs hok
    have hLen : (cs.map encC).length ≤ 40 := by rw [List.length_map]; omega
    have hch := chV_enc cs hok
    have hlogs := logs_ev (cs.map encC) (lane : Int) hLen hU
    rw [hch] at hlogs
    have hmem : ∀ z, z ∈ logsOf cs (lane : Int) ↔ z ∈ logIdx cs (lane : Int) := fun z => (logsOf_mem cs lane).mem_iff
    have hin : ∀ q : Nat, (q : Int) ∈ logIdx cs (lane : Int) ↔ ∃ h : q < cs.length, cs[q].f0 = 4 ∧ cs[q].f2 = (lane : Int) := fun q => by
      constructor
      · intro h
        obtain ⟨i, hi, e, h4, h5⟩ := logIdx_mem cs lane _ h
        have : q = i := by omega
        subst this
        exact ⟨hi, h4, h5⟩
      · rintro ⟨h, h4, h5⟩
        unfold logIdx
        refine List.mem_map.2 ⟨(cs[q], q), List.mem_filter.2 ⟨?_, by simp [h4, h5]⟩, rfl⟩
        rw [List.mem_zipIdx_iff_getElem?]
        exact List.getElem?_eq_getElem h
    have hlen2 : (logsOf cs (lane : Int)).length ≤ 40 := by rw [logsOf_len]; exact Nat.le_trans (logIdx_len _ _) (by omega)
    have hnd : (logsOf cs (lane : Int)).Nodup := (logsOf_mem cs lane).nodup_iff.2 ((logIdx_rise cs lane).imp (fun h => by omega))
    obtain ⟨f1, g1, g2, g3⟩ := whole_l5 t n ht hn (lane : Int) (logsOf cs lane) hlen2 (fun z hz => by have := logIdx_range cs lane z ((hmem z).1 hz); omega) hnd (r := r) _ 0 f rfl (Nat.zero_le _) (fun q hq => by
      obtain ⟨h, h4, h5⟩ := (hin q).1 ((hmem _).1 hq)
      exact hz q h h4 (by omega))
    rw [List.drop_zero] at g1 g2
    obtain ⟨f', k1, k2, k3⟩ := ih (lane + 1) f1 (by omega) (by omega) (fun q h h4 h5 => by
      rw [g1 q (fun hq => by obtain ⟨_, _, h7⟩ := (hin q).1 ((hmem _).1 hq); omega)]
      exact hz q h h4 (by omega))
    refine ⟨f', fun q hq => k1 q ?_, fun q h h4 h5 => ?_, fun h => ?_⟩
    · by_cases hm : (q : Int) ∈ logsOf cs (lane : Int)
      · exact g2 q hm
      · rw [g1 q hm]; exact hq
    · by_cases hm : cs[q].f2 = (lane : Int)
      · exact k1 q (g2 q ((hmem _).2 ((hin q).2 ⟨h, h4, hm⟩)))
      · exact k2 q h h4 (by omega)
    · refine Ev.step (fun k => by simp only [lockfastlaw11_TileWhole.l4]; rw [if_pos (by omega)]) ?_
      rw [htc]
      refine Ev.bind hlogs ?_
      rw [← htc]
      refine g3 ?_
      rw [w64 (by omega)]
      exact k3 h
/-! the rows -/
theorem whole_l3 (t : List Int) (n : Nat) (ht : t.length = n) (hn : n ≤ 40) (rl : List Row) (j a m : Nat) (hm : a + m ≤ n) {r : Bool} : ∀ (d i : Nat) (f : Nat → Int), m - i = d → i ≤ m → (∀ q, a + i ≤ q → q < a + m → f q = 0) →
    ∃ f' : Nat → Int, (∀ q, ¬ (a + i ≤ q ∧ q < a + m) → f' q = f q) ∧ (∀ q, a + i ≤ q → q < a + m → f' q ≠ 0) ∧
      (Ev (fun k => lockfastlaw11_TileWhole.l2 k true t (seenL (n + 1) f') rl (rl.length : Int) (wrap64 ((j : Int) + 1))) r → Ev (fun k => lockfastlaw11_TileWhole.l3 k true t (seenL (n + 1) f) (i : Int) rl (rl.length : Int) (j : Int) (a : Int) (m : Int)) r) := by
  intro d
  induction d with
  | zero =>
    intro i f hd hi hz
    obtain rfl : i = m := by omega
    refine ⟨f, fun _ _ => rfl, fun q h1 h2 => by omega, fun h => ev_next (fun k => ?_) h⟩
    simp only [lockfastlaw11_TileWhole.l3]
    rw [if_neg (by omega)]
  | succ d ih =>
    intro i f hd hi hz
    obtain ⟨f', h1, h2, h3⟩ := ih (i + 1) (upd f (a + i) 4) (by omega) (by omega) (fun q h4 h5 => by
      unfold upd
      rw [if_neg (by omega)]
      exact hz q (by omega) h5)
    refine ⟨f', fun q hq => ?_, fun q h4 h5 => ?_, fun h => ev_next (fun k => ?_) (h3 h)⟩
    · rw [h1 q (by omega)]
      unfold upd
      rw [if_neg (by omega)]
    · by_cases e : q = a + i
      · rw [h1 q (by omega)]
        unfold upd
        rw [if_pos e]
        decide
      · exact h2 q (by omega) h5
    · simp only [lockfastlaw11_TileWhole.l3]
      rw [if_pos (by omega), if_neg (by omega), w64 (x := (a : Int) + i) (by omega), show (a : Int) + i = ((a + i : Nat) : Int) by omega, if_neg (by omega), if_pos (by omega), if_pos (by rw [seenL_len]; omega), seenL_rd _ _ _ (by omega), if_pos (hz _ (Nat.le_refl _) (by omega)), Int.toNat_natCast, seenL_set, w64 (by omega)]
      rfl
theorem whole_l2 (t : List Int) (n : Nat) (ht : t.length = n) (hn : n ≤ 40) (cs : List Chk) (hcs : cs.length = n) (rl : List Row) (hrl : rl.length ≤ 1000) {r : Bool} : ∀ (d j p : Nat) (f : Nat → Int), rl.length - j = d → j ≤ rl.length → RowsOk cs p (rl.drop j) →
    (∀ q : Nat, ∀ h : q < cs.length, may cs[q] → p ≤ q → f q = 0) →
    ∃ f' : Nat → Int, (∀ q : Nat, ∀ h : q < cs.length, ¬ may cs[q] → f' q = f q) ∧ (∀ q, f q ≠ 0 → f' q ≠ 0) ∧ (∀ q : Nat, ∀ s ∈ rl.drop j, s.f0 ≤ (q : Int) → (q : Int) < s.f0 + s.f1 → f' q ≠ 0) ∧
      (Ev (fun k => lockfastlaw11_TileWhole.l4 k true t (seenL (n + 1) f') 0) r → Ev (fun k => lockfastlaw11_TileWhole.l2 k true t (seenL (n + 1) f) rl (rl.length : Int) (j : Int)) r) := by
  intro d
  induction d with
  | zero =>
    intro j p f hd hj hr hz
    obtain rfl : j = rl.length := by omega
    rw [List.drop_length]
    refine ⟨f, fun _ _ _ => rfl, fun _ h => h, fun q s hs => (by cases hs), fun h => ev_next (fun k => ?_) h⟩
    simp only [lockfastlaw11_TileWhole.l2]
    rw [if_neg (by omega)]
  | succ d ih =>
    intro j p f hd hj hr hz
    have hlt : j < rl.length := by omega
    rw [List.drop_eq_getElem_cons hlt] at hr ⊢
    obtain ⟨a, m, hs, hp, h1, h2, _, _, h5, h6⟩ := hr
    obtain ⟨f1, g1, g2, g3⟩ := whole_l3 t n ht hn rl j a m (by omega) (r := r) _ 0 f rfl (Nat.zero_le _) (fun q h3 h4 => hz q (by omega) (h5 q (by omega) (by omega) h4) (by omega))
    obtain ⟨f', k1, k2, k3, k4⟩ := ih (j + 1) (a + m + 1) f1 (by omega) (by omega) h6 (fun q h hm hq => by
      rw [g1 q (by omega)]
      exact hz q h hm (by omega))
    refine ⟨f', fun q h hm => ?_, fun q hq => k2 q ?_, fun q s hs2 h3 h4 => ?_, fun h => ?_⟩
    · rw [k1 q h hm, g1 q (fun hh => hm (h5 q h (by omega) (by omega)))]
    · by_cases hh : a + 0 ≤ q ∧ q < a + m
      · exact g2 q hh.1 hh.2
      · rw [g1 q hh]; exact hq
    · rcases List.mem_cons.1 hs2 with rfl | hs2
      · rw [hs] at h3 h4
        dsimp only at h3 h4
        exact k2 q (g2 q (by omega) (by omega))
      · exact k3 q s hs2 h3 h4
    · have e : ∀ k, lockfastlaw11_TileWhole.l2 (k + 1) true t (seenL (n + 1) f) rl (rl.length : Int) (j : Int) = lockfastlaw11_TileWhole.l3 k true t (seenL (n + 1) f) ((0 : Nat) : Int) rl (rl.length : Int) (j : Int) (a : Int) (m : Int) := fun k => by
        simp only [lockfastlaw11_TileWhole.l2]
        rw [if_pos (by omega), if_pos (by omega), if_pos (by omega), rdR rl j hlt, hs]
        rfl
      refine ev_next e (g3 ?_)
      rw [w64 (by omega)]
      exact k4 h
theorem rowsG_cover (cs : List Chk) : ∀ (d i m : Nat), cs.length - i = d → i ≤ cs.length → m ≤ i → ∀ q : Nat, (i - m ≤ q ∧ q < i ∨ ∃ h : q < cs.length, i ≤ q ∧ may cs[q]) → ∃ s ∈ rowsG i m (cs.drop i), s.f0 ≤ (q : Int) ∧ (q : Int) < s.f0 + s.f1 := by
  intro d
  induction d with
  | zero =>
    intro i m hd hi hm q hq
    obtain rfl : i = cs.length := by omega
    rw [List.drop_length, rowsG]
    rcases hq with hq | ⟨h, hq, _⟩
    · unfold openR
      rw [if_neg (by omega)]
      exact ⟨_, List.mem_cons_self, by dsimp only; omega, by dsimp only; omega⟩
    · omega
  | succ d ih =>
    intro i m hd hi hm q hq
    have hlt : i < cs.length := by omega
    rw [List.drop_eq_getElem_cons hlt, rowsG]
    by_cases hmy : may cs[i]
    · rw [if_pos hmy]
      refine ih (i + 1) (m + 1) (by omega) (by omega) (by omega) q ?_
      rcases hq with hq | ⟨h, hq, hmq⟩
      · exact .inl (by omega)
      · by_cases e : q = i
        · exact .inl (by omega)
        · exact .inr ⟨h, by omega, hmq⟩
    · rw [if_neg hmy]
      rcases hq with hq | ⟨h, hq, hmq⟩
      · unfold openR
        rw [if_neg (by omega)]
        exact ⟨_, List.mem_append_left _ List.mem_cons_self, by dsimp only; omega, by dsimp only; omega⟩
      · have : q ≠ i := fun e => by subst e; exact hmy hmq
        obtain ⟨s, hs, h1, h2⟩ := ih (i + 1) 0 (by omega) (by omega) (by omega) q (.inr ⟨h, by omega, hmq⟩)
        exact ⟨s, List.mem_append_right _ hs, h1, h2⟩
/-! the blocks -/
def idle (c : Chk) : Prop := may c ∨ c.f0 = 4
theorem w64_succ (k : Nat) (h : k ≤ 1000000) : wrap64 ((k : Int) + 1) = ((k + 1 : Nat) : Int) := w64 (by omega)
theorem w64_16 (k : Nat) (h : k ≤ 1000000) : wrap64 (16 + (k : Int)) = ((16 + k : Nat) : Int) := w64 (by omega)
theorem w64_nat (k : Nat) (h : k ≤ 1000000) : wrap64 (k : Int) = (k : Int) := w64 (by omega)
theorem whole_b1 (t : List Int) (n : Nat) (ht : t.length = n) (hn : n ≤ 40) (bs : List Blk) (hbs : bs.length ≤ 1000) (j i k w v : Nat) (f : Nat → Int) (hj : j < bs.length) (hb : bs[j] = ⟨(i : Int), (k : Int), (w : Int)⟩) (hi : i < n) (hk : k < 8) (hw : 1 ≤ w) (hw32 : w < 32) (hkw : (k + 1) * w ≤ 32)
    (hf : f i = (v : Int)) (hv : v < 16777216) (hbit : v.testBit (16 + k) = false) {r : Bool}
    (h : Ev (fun kk => lockfastlaw11_TileWhole.l0 kk true t (seenL (n + 1) (upd f i ((v ||| 1 ||| 2 ^ (16 + k) : Nat) : Int))) bs (bs.length : Int) ((j + 1 : Nat) : Int)) r) :
    Ev (fun kk => lockfastlaw11_TileWhole.l0 kk true t (seenL (n + 1) f) bs (bs.length : Int) (j : Int)) r := by
  have j1 : j ≤ 1000000 := by omega
  have k1 : k ≤ 1000000 := by omega
  have hkw2 : ((k + 1 : Nat) : Int) * (w : Int) = (((k + 1) * w : Nat) : Int) := (Int.natCast_mul (k + 1) w).symm
  obtain ⟨kw, hkwe⟩ : ∃ kw : Nat, (k + 1) * w = kw := ⟨_, rfl⟩
  rw [hkwe] at hkw hkw2
  clear hkwe
  have hp : 2 ^ (16 + k) < 4611686018427387904 := Nat.lt_of_le_of_lt (Nat.pow_le_pow_right (by decide) (show 16 + k ≤ 24 by omega)) (by decide)
  have hv1 : v ||| 1 < 4611686018427387904 := Nat.or_lt_two_pow (n := 62) (by omega) (by omega)
  refine Ev.step (fun kk => by simp only [lockfastlaw11_TileWhole.l0]; rw [if_pos (by omega), if_pos (by omega), if_pos (by omega), rdB bs j hj, hb]) ?_
  dsimp only
  refine Ev.congr (fun kk => by rw [if_neg (by omega), if_neg (by omega), if_neg (by omega), decide_eq_false (by omega)]) ?_
  refine ev_next (fun kk => ?_) h
  simp only [lockfastlaw11_TileWhole.j1]
  rw [if_neg (by decide), if_pos (by omega), if_pos (by omega), if_pos (by rw [seenL_len]; omega), w64_16 k k1, if_pos (by omega), seenL_rd _ _ i (by omega), hf,
    if_neg (by rw [bit_test v (16 + k) hv (by omega), hbit]; decide), w64_succ k k1, hkw2, w64_nat kw (by omega), if_neg (by omega), shli (16 + k) (by omega), show (1 : Int) = ((1 : Nat) : Int) from rfl, bitsi_or v 1 (by omega) (by omega), bitsi_or _ _ hv1 hp, Int.toNat_natCast, seenL_set]
  rw [← show (1 : Int) = ((1 : Nat) : Int) from rfl, w64_succ j j1]
theorem upd_upd (f : Nat → Int) (i : Nat) (v w : Int) : upd (upd f i v) i w = upd f i w := by
  funext p
  unfold upd
  split <;> rfl
theorem upd_self (f : Nat → Int) (i : Nat) (v : Int) (h : f i = v) : upd f i v = f := by
  funext p
  unfold upd
  split
  · rename_i e; rw [e, h]
  · rfl
theorem whole_ks (t : List Int) (n : Nat) (ht : t.length = n) (hn : n ≤ 40) (bs : List Blk) (hbs : bs.length ≤ 1000) (i w : Nat) (cl : Int) (hcl : blockW cl = (w : Int)) (hi : i < n) (hw : 1 ≤ w) (hw32 : w < 32) (rest : List Blk) {r : Bool} : ∀ (ks : List Nat) (j v : Nat) (f : Nat → Int),
    ks.Pairwise (· < ·) → (∀ k ∈ ks, k < 8 ∧ (k + 1) * w ≤ 32 ∧ v.testBit (16 + k) = false) → v < 16777216 → f i = (v : Int) → bs.drop j = ks.map (fun k => mkB i cl ((k : Nat) : Int)) ++ rest →
    ∃ v' : Nat, (ks ≠ [] → v' ≠ 0) ∧ (v ≠ 0 → v' ≠ 0) ∧ (ks = [] → v' = v) ∧ bs.drop (j + ks.length) = rest ∧
      (Ev (fun kk => lockfastlaw11_TileWhole.l0 kk true t (seenL (n + 1) (upd f i (v' : Int))) bs (bs.length : Int) ((j + ks.length : Nat) : Int)) r → Ev (fun kk => lockfastlaw11_TileWhole.l0 kk true t (seenL (n + 1) f) bs (bs.length : Int) (j : Int)) r) := by
  intro ks
  induction ks with
  | nil =>
    intro j v f _ _ _ hf hd
    exact ⟨v, fun h => absurd rfl h, fun h => h, fun _ => rfl, by simpa using hd, fun h => by rw [upd_self f i _ hf] at h; simpa using h⟩
  | cons k ks ih =>
    intro j v f hp hk hv hf hd
    obtain ⟨k8, kw, kb⟩ := hk k List.mem_cons_self
    have hj : j < bs.length := by
      rcases Nat.lt_or_ge j bs.length with h | h
      · exact h
      · rw [List.drop_eq_nil_of_le h] at hd; simp at hd
    rw [List.drop_eq_getElem_cons hj, List.map_cons, List.cons_append, List.cons.injEq] at hd
    have hpp := List.pairwise_cons.1 hp
    have hv2 : v ||| 1 ||| 2 ^ (16 + k) < 16777216 := by
      have h1 : v ||| 1 < 2 ^ 24 := Nat.or_lt_two_pow (n := 24) hv (by omega)
      exact Nat.or_lt_two_pow (n := 24) h1 (Nat.pow_lt_pow_right (by decide) (by omega))
    obtain ⟨v', g1, g2, g3, g4, g5⟩ := ih (j + 1) (v ||| 1 ||| 2 ^ (16 + k)) (upd f i ((v ||| 1 ||| 2 ^ (16 + k) : Nat) : Int)) hpp.2 (fun k' hk' => by
      obtain ⟨a1, a2, a3⟩ := hk k' (List.mem_cons_of_mem _ hk')
      have hlt := hpp.1 k' hk'
      refine ⟨a1, a2, ?_⟩
      rw [Nat.testBit_or, Nat.testBit_or, a3, Nat.testBit_two_pow, decide_eq_false (by omega)]
      have : Nat.testBit 1 (16 + k') = false := Nat.testBit_lt_two_pow (Nat.lt_of_lt_of_le (by decide : 1 < 2 ^ 16) (Nat.pow_le_pow_right (by decide) (by omega)))
      rw [this]
      rfl) hv2 (by unfold upd; rw [if_pos rfl]) hd.2
    have hne : v ||| 1 ||| 2 ^ (16 + k) ≠ 0 := by
      intro e
      have := congrArg (fun x => Nat.testBit x 0) e
      simp only [Nat.testBit_or, Nat.zero_testBit] at this
      simp at this
    refine ⟨v', fun _ => g2 hne, fun _ => g2 hne, fun h => (by cases h), by rw [← g4, List.length_cons]; congr 1; omega, fun h => ?_⟩
    rw [upd_upd] at g5
    have h2 := g5 (by rw [List.length_cons, show j + (ks.length + 1) = j + 1 + ks.length by omega] at h; exact h)
    refine whole_b1 t n ht hn bs hbs j i k w v f hj ?_ hi k8 hw hw32 kw hf hv kb h2
    rw [hd.1]
    unfold mkB
    rw [hcl]
theorem whole_l1 (t : List Int) (n : Nat) (ht : t.length = n) (hn : n ≤ 40) (bs : List Blk) (j a m : Nat) (hm : a + m ≤ n) {r : Bool} : ∀ (d i : Nat) (f : Nat → Int), m - i = d → i ≤ m → (∀ q, a + i ≤ q → q < a + m → f q = 0) →
    ∃ f' : Nat → Int, (∀ q, ¬ (a + i ≤ q ∧ q < a + m) → f' q = f q) ∧ (∀ q, a + i ≤ q → q < a + m → f' q ≠ 0) ∧
      (Ev (fun k => lockfastlaw11_TileWhole.l0 k true t (seenL (n + 1) f') bs (bs.length : Int) (wrap64 ((j : Int) + 1))) r → Ev (fun k => lockfastlaw11_TileWhole.l1 k true t (seenL (n + 1) f) (i : Int) bs (bs.length : Int) (j : Int) (a : Int) 0 ((32 * m : Nat) : Int)) r) := by
  have hdiv : wrap64 (Int.tdiv ((32 * m : Nat) : Int) 32) = (m : Int) := by
    rw [Int.tdiv_eq_ediv_of_nonneg (by omega), w64 (by omega)]
    omega
  intro d
  induction d with
  | zero =>
    intro i f hd hi hz
    obtain rfl : i = m := by omega
    refine ⟨f, fun _ _ => rfl, fun q h1 h2 => by omega, fun h => ev_next (fun k => ?_) h⟩
    simp only [lockfastlaw11_TileWhole.l1]
    rw [hdiv, if_neg (by omega)]
  | succ d ih =>
    intro i f hd hi hz
    obtain ⟨f', h1, h2, h3⟩ := ih (i + 1) (upd f (a + i) 2) (by omega) (by omega) (fun q h4 h5 => by
      unfold upd
      rw [if_neg (by omega)]
      exact hz q (by omega) h5)
    refine ⟨f', fun q hq => ?_, fun q h4 h5 => ?_, fun h => ev_next (fun k => ?_) (h3 h)⟩
    · rw [h1 q (by omega)]
      unfold upd
      rw [if_neg (by omega)]
    · by_cases e : q = a + i
      · rw [h1 q (by omega)]
        unfold upd
        rw [if_pos e]
        decide
      · exact h2 q (by omega) h5
    · simp only [lockfastlaw11_TileWhole.l1]
      rw [hdiv, if_pos (by omega), w64 (x := (a : Int) + i) (by omega), show (a : Int) + i = ((a + i : Nat) : Int) by omega, if_neg (by omega), if_pos (by omega), if_pos (by rw [seenL_len]; omega), seenL_rd _ _ _ (by omega), if_pos (hz _ (Nat.le_refl _) (by omega)), Int.toNat_natCast, seenL_set, w64 (by omega)]
      rfl
theorem blkOne_tail (a : Nat) : blkOne a tailC = [] := by
  unfold blkOne huge tailC
  rw [if_neg (by decide), List.nil_append]
  have : onesI 0 (manyW 0) = [] := by decide +kernel
  show ((onesI 0 (manyW 0)).map _) = []
  rw [this]
  rfl
theorem blkFrom_tails (m : Nat) (cs : List Chk) : ∀ a : Nat, blkFrom a (List.replicate m tailC ++ cs) = blkFrom (a + m) cs := by
  induction m with
  | zero => intro a; simp
  | succ m ih =>
    intro a
    rw [List.replicate_succ, List.cons_append, blkFrom_cons, blkOne_tail, List.nil_append, ih]
    congr 1
    omega
theorem expand_len (c : Chk) : (expand c).length = 1 + (if c.f0 = 2 then c.f3.toNat - 1 else 0) := by
  unfold expand
  rw [List.length_cons, List.length_replicate]
  omega
theorem blkFrom_expand (a : Nat) (c : Chk) (cs : List Chk) : blkFrom a (expand c ++ cs) = blkOne a c ++ blkFrom (a + (expand c).length) cs := by
  rw [expand_len]
  unfold expand
  rw [List.cons_append, blkFrom_cons, blkFrom_tails]
  congr 2
  omega
theorem tab_units {cs : List Chk} (h : Tab cs) : ∃ us : List Chk, (∀ c ∈ us, okC c ∧ c.f0 ≠ 3) ∧ cs = us.flatMap expand := by
  induction h with
  | nil => exact ⟨[], fun c hc => (by cases hc), rfl⟩
  | snoc cs c _ h1 h2 ih =>
    obtain ⟨us, hu, rfl⟩ := ih
    refine ⟨us ++ [c], fun x hx => ?_, by simp⟩
    rcases List.mem_append.1 hx with hx | hx
    · exact hu x hx
    · rw [List.mem_singleton.1 hx]; exact ⟨h1, h2⟩
theorem run_bits (c : Chk) (h : okC c) (hk : c.f0 = 1) : ∃ w : Nat, blockW c.f1 = (w : Int) ∧ 1 ≤ w ∧ w < 32 ∧ ∃ ks : List Nat, ks.Pairwise (· < ·) ∧ onesI c.f4 (manyW c.f1) = ks.map (fun k => ((k : Nat) : Int)) ∧ (∀ k ∈ ks, k < 8 ∧ (k + 1) * w ≤ 32) ∧ (ks = [] ↔ c.f4 = 0) := by
  have hrun := okC_run h hk
  have hb4 := h.2
  have e : ∀ b : Fin 256, ((List.range 8).filter (bitAt ((b.val : Nat) : Int)) = [] ↔ b.val = 0) ∧ (b.val < 16 → ((List.range 4).filter (bitAt ((b.val : Nat) : Int)) = [] ↔ b.val = 0)) ∧ (b.val < 4 → ((List.range 2).filter (bitAt ((b.val : Nat) : Int)) = [] ↔ b.val = 0)) := by decide +kernel
  obtain ⟨b, hb⟩ : ∃ b : Nat, c.f4 = (b : Int) := ⟨c.f4.toNat, by omega⟩
  have gen : ∀ (M w : Nat), manyW c.f1 = (M : Int) → blockW c.f1 = (w : Int) → M ≤ 8 → M * w ≤ 32 → 1 ≤ w → w < 32 → (((List.range M).filter (bitAt (b : Int)) = []) ↔ b = 0) → ∃ w : Nat, blockW c.f1 = (w : Int) ∧ 1 ≤ w ∧ w < 32 ∧ ∃ ks : List Nat, ks.Pairwise (· < ·) ∧ onesI c.f4 (manyW c.f1) = ks.map (fun k => ((k : Nat) : Int)) ∧ (∀ k ∈ ks, k < 8 ∧ (k + 1) * w ≤ 32) ∧ (ks = [] ↔ c.f4 = 0) := by
    intro M w hM hw h8 hMw w1 w2 hz
    refine ⟨w, hw, w1, w2, (List.range M).filter (bitAt (b : Int)), List.Pairwise.filter _ List.pairwise_lt_range, ?_, fun k hk => ?_, ?_⟩
    · unfold onesI ones
      rw [hM, hb]
      congr 3
      omega
    · have := List.mem_range.1 (List.mem_filter.1 hk).1
      exact ⟨by omega, Nat.le_trans (Nat.mul_le_mul_right w this) hMw⟩
    · rw [hz, hb]
      omega
  have hbe := e ⟨b, by omega⟩
  rcases hrun.2.2 with h | h | h
  · exact gen 8 4 (by rw [h.1]; decide) (by rw [h.1]; decide) (by omega) (by omega) (by omega) (by omega) hbe.1
  · exact gen 4 8 (by rw [h.1]; decide) (by rw [h.1]; decide) (by omega) (by omega) (by omega) (by omega) (hbe.2.1 (by show b < 16; omega))
  · exact gen 2 16 (by rw [h.1]; decide) (by rw [h.1]; decide) (by omega) (by omega) (by omega) (by omega) (hbe.2.2 (by show b < 4; omega))
theorem whole_l0 (t : List Int) (n : Nat) (ht : t.length = n) (hn : n ≤ 40) (bs : List Blk) (hbs : bs.length ≤ 1000) {r : Bool} : ∀ (us : List Chk) (a j : Nat) (f : Nat → Int), (∀ c ∈ us, okC c ∧ c.f0 ≠ 3) → bs.drop j = blkFrom a (us.flatMap expand) → j ≤ bs.length → a + (us.flatMap expand).length = n →
    (∀ q, a ≤ q → q < n → f q = 0) →
    ∃ f' : Nat → Int, (∀ q, q < a → f' q = f q) ∧ (∀ q : Nat, ∀ h : q < (us.flatMap expand).length, (idle (us.flatMap expand)[q] → f' (a + q) = 0) ∧ (¬ idle (us.flatMap expand)[q] → f' (a + q) ≠ 0)) ∧
      (Ev (fun k => (tile_Rows.f k t).bind fun rl => lockfastlaw11_TileWhole.l2 k true t (seenL (n + 1) f') rl (rl.length : Int) 0) r → Ev (fun k => lockfastlaw11_TileWhole.l0 k true t (seenL (n + 1) f) bs (bs.length : Int) (j : Int)) r) := by
  intro us
  induction us with
  | nil =>
    intro a j f _ hd hj ha hz
    have hl : bs.length ≤ j := List.drop_eq_nil_iff.1 (by rw [hd]; rfl)
    refine ⟨f, fun _ _ => rfl, fun q h => absurd h (by simp), fun h => Ev.step (fun k => ?_) h⟩
    simp only [lockfastlaw11_TileWhole.l0]
    rw [if_neg (by omega)]
  | cons c us ih =>
    intro a j f hu hd hj ha hz
    obtain ⟨hc, hc3⟩ := hu c List.mem_cons_self
    rw [List.flatMap_cons, blkFrom_expand] at hd
    rw [List.flatMap_cons, List.length_append] at ha
    have hel := expand_len c
    have hel1 : 1 ≤ (expand c).length := by omega
    -- what the unit itself makes
    have unit : ∃ f1 : Nat → Int, ∃ j1 : Nat, j1 ≤ bs.length ∧ bs.drop j1 = blkFrom (a + (expand c).length) (us.flatMap expand) ∧ (∀ q, ¬ (a ≤ q ∧ q < a + (expand c).length) → f1 q = f q) ∧
        (∀ q : Nat, ∀ h : q < (expand c).length, (idle (expand c)[q] → f1 (a + q) = 0) ∧ (¬ idle (expand c)[q] → f1 (a + q) ≠ 0)) ∧
        (Ev (fun k => lockfastlaw11_TileWhole.l0 k true t (seenL (n + 1) f1) bs (bs.length : Int) (j1 : Int)) r → Ev (fun k => lockfastlaw11_TileWhole.l0 k true t (seenL (n + 1) f) bs (bs.length : Int) (j : Int)) r) := by
      have first : ∀ h : 0 < (expand c).length, (expand c)[0] = c := fun h => rfl
      by_cases h2 : c.f0 = 2
      · have hh := okC_huge hc h2
        obtain ⟨m, hm⟩ : ∃ m : Nat, c.f3 = (m : Int) := ⟨c.f3.toNat, by omega⟩
        rw [if_pos h2, hm, Int.toNat_natCast] at hel
        have hlen : (expand c).length = m := by omega
        have hones : onesI c.f4 (manyW c.f1) = [] := by rw [hh.1, hh.2.2.1]; decide +kernel
        have hone : blkOne a c = [⟨(a : Int), 0, ((32 * m : Nat) : Int)⟩] := by
          unfold blkOne huge
          rw [if_pos h2, hones, hm, w64 (by omega)]
          simp only [List.map_nil, List.append_nil, List.cons.injEq, and_true]
          congr 1
          omega
        rw [hone, List.cons_append, List.nil_append] at hd
        have hjl : j < bs.length := by
          rcases Nat.lt_or_ge j bs.length with h | h
          · exact h
          · rw [List.drop_eq_nil_of_le h] at hd; cases hd
        rw [List.drop_eq_getElem_cons hjl, List.cons.injEq] at hd
        obtain ⟨f1, g1, g2, g3⟩ := whole_l1 t n ht hn bs j a m (by omega) (r := r) _ 0 f rfl (Nat.zero_le _) (fun q h3 h4 => hz q (by omega) (by omega))
        refine ⟨f1, j + 1, hjl, hd.2, fun q hq => g1 q (by omega), fun q hq => ⟨fun hi => ?_, fun _ => g2 (a + q) (by omega) (by omega)⟩, fun h => ?_⟩
        · exfalso
          have hk : (expand c)[q].f0 = 2 ∨ (expand c)[q].f0 = 3 := by
            unfold expand
            cases q with
            | zero => exact .inl h2
            | succ q => simp [tailC]
          rcases hi with (h0 | ⟨h1, _⟩) | h4 <;> omega
        · refine Ev.step (fun k => by simp only [lockfastlaw11_TileWhole.l0]; rw [if_pos (by omega), if_pos (by omega), if_pos (by omega), rdB bs j hjl, hd.1]) ?_
          dsimp only
          refine Ev.congr (fun k => by rw [if_neg (by omega), if_neg (by omega), if_neg (by decide), decide_eq_false (by omega)]) ?_
          refine ev_next (f := fun k => lockfastlaw11_TileWhole.l1 k true t (seenL (n + 1) f) ((0 : Nat) : Int) bs (bs.length : Int) (j : Int) (a : Int) 0 ((32 * m : Nat) : Int)) (fun k => ?_) (g3 ?_)
          · simp only [lockfastlaw11_TileWhole.j1]
            rw [if_neg (by decide), if_neg (by omega)]
            rfl
          · rw [w64 (by omega)]
            exact h
      · rw [if_neg h2] at hel
        have hsing : ∀ q : Nat, ∀ h : q < (expand c).length, (expand c)[q] = c := fun q h => by
          have : q = 0 := by omega
          subst this
          rfl
        have hhuge : huge a c.f0 c.f3 = [] := if_neg h2
        by_cases h1 : c.f0 = 1
        · obtain ⟨w, hw, w1, w2, ks, hp, hon, hks, hkz⟩ := run_bits c hc h1
          have hone : blkOne a c = ks.map (fun k => mkB a c.f1 ((k : Nat) : Int)) := by
            unfold blkOne
            rw [hhuge, hon, List.nil_append, List.map_map]
            rfl
          rw [hone] at hd
          obtain ⟨v', g1, _, g3, g4, g5⟩ := whole_ks t n ht hn bs hbs a w c.f1 hw (by omega) w1 w2 _ (r := r) ks j 0 f hp (fun k hk => ⟨(hks k hk).1, (hks k hk).2, Nat.zero_testBit _⟩) (by decide) (hz a (Nat.le_refl _) (by omega)) hd
          have hjk : j + ks.length ≤ bs.length := by
            have := congrArg List.length hd
            rw [List.length_drop, List.length_append, List.length_map] at this
            omega
          refine ⟨upd f a (v' : Int), j + ks.length, hjk, g4, fun q hq => ?_, fun q hq => ?_, g5⟩
          · unfold upd
            rw [if_neg (by omega)]
          · have : q = 0 := by omega
            subst this
            rw [first, Nat.add_zero]
            unfold upd
            rw [if_pos rfl]
            refine ⟨fun hi => ?_, fun hi => ?_⟩
            · have h4 : c.f4 = 0 := by
                rcases hi with (h0 | ⟨_, h4⟩) | h4
                · omega
                · exact h4
                · omega
              rw [g3 (hkz.2 h4)]
              rfl
            · have h4 : c.f4 ≠ 0 := fun e => hi (.inl (.inr ⟨h1, e⟩))
              have := g1 (fun e => h4 (hkz.1 e))
              omega
        · have hone : blkOne a c = [] := by
            have h4 : c.f4 = 0 := by
              rcases okC_kind hc with h | h | h | h | h
              · exact (okC_plain hc (.inl h)).2.2.2
              · exact absurd h h1
              · exact absurd h h2
              · exact absurd h hc3
              · exact (okC_log hc h).2.1
            have hcl : c.f1 = 0 := by
              rcases okC_kind hc with h | h | h | h | h
              · exact (okC_plain hc (.inl h)).1
              · exact absurd h h1
              · exact absurd h h2
              · exact absurd h hc3
              · exact (okC_log hc h).1
            unfold blkOne
            rw [hhuge, h4, hcl]
            have : onesI 0 (manyW 0) = [] := by decide +kernel
            rw [this]
            rfl
          rw [hone, List.nil_append] at hd
          refine ⟨f, j, hj, hd, fun _ _ => rfl, fun q hq => ?_, fun h => h⟩
          rw [hsing q hq]
          refine ⟨fun _ => hz (a + q) (by omega) (by omega), fun hi => absurd ?_ hi⟩
          rcases okC_kind hc with h | h | h | h | h
          · exact .inl (.inl h)
          · exact absurd h h1
          · exact absurd h h2
          · exact absurd h hc3
          · exact .inr h
    obtain ⟨f1, j1, e1, e2, e3, e4, e5⟩ := unit
    obtain ⟨f', k1, k2, k3⟩ := ih (a + (expand c).length) j1 f1 (fun x hx => hu x (List.mem_cons_of_mem _ hx)) e2 e1 (by omega) (fun q h1 h2 => by
      rw [e3 q (by omega)]
      exact hz q (by omega) h2)
    refine ⟨f', fun q hq => by rw [k1 q (by omega), e3 q (by omega)], fun q hq => ?_, fun h => e5 (k3 h)⟩
    simp only [List.flatMap_cons] at hq ⊢
    by_cases hx : q < (expand c).length
    · rw [List.getElem_append_left hx, k1 (a + q) (by omega)]
      exact e4 q hx
    · rw [List.length_append] at hq
      rw [List.getElem_append_right (by omega)]
      have := k2 (q - (expand c).length) (by omega)
      rw [show a + (expand c).length + (q - (expand c).length) = a + q by omega] at this
      exact this
theorem TileWhole : lockfastlaw11_TileWhole.Fact := by
  intro l hl hl2 hu
  suffices H : Ev (fun k => lockfastlaw11_TileWhole.f k l) true from H.rounds
  unfold lockfastlaw11_TileWhole.f
  refine Ev.bind awake_ev ?_
  by_cases h60 : (l.length : Int) > 60
  · exact Ev.congr (f := fun _ => some true) (fun k => by rw [if_pos h60]) (ev_some _)
  · refine Ev.congr (fun k => by rw [if_neg h60]) ?_
    obtain ⟨cs, htab, hlen, hmade⟩ := made_ev l 40 (by omega) (by omega) (fun x hx => u16_range (hu x hx))
    refine Ev.bind hmade ?_
    have hU := U64_enc cs htab.ok
    have hch := chV_enc cs htab.ok
    have hL : (cs.map encC).length = cs.length := List.length_map ..
    have hw : wrap64 (((cs.map encC).length : Int) + 1) = ((cs.length + 1 : Nat) : Int) := by rw [hL, w64 (by omega)]; rfl
    rw [hw]
    refine Ev.congr (fun k => by rw [if_pos (by omega), if_pos (by omega), Int.toNat_natCast]) ?_
    refine Ev.bind (blocks_ev _ (by omega) hU) ?_
    rw [hch, seenL_zero]
    obtain ⟨us, hus, hcs⟩ := tab_units htab
    have hB := blkAll_len cs
    have hrows := rows_ev (cs.map encC) (by omega) hU
    have hrv : rowsV (cs.map encC) = rowsG 0 0 cs := by unfold rowsV; rw [hch]
    rw [hrv] at hrows
    have hro := rowsG_ok cs _ 0 0 0 rfl (Nat.zero_le _) (Nat.le_refl _) (Nat.zero_le _) (fun k h h1 h2 => by omega) (fun h h1 => by omega)
    rw [List.drop_zero] at hro
    have hrl := rowsG_len cs 0 0
    obtain ⟨f1, _, a2, a3⟩ := whole_l0 (cs.map encC) cs.length hL (by omega) (blkAll cs) (by omega) (r := true) us 0 0 (fun _ => 0) hus (by rw [← hcs]; rfl) (Nat.zero_le _) (by rw [← hcs]; omega) (fun _ _ _ => rfl)
    simp only [← hcs, Nat.zero_add] at a2
    obtain ⟨f2, b1, b2, b3, b4⟩ := whole_l2 (cs.map encC) cs.length hL (by omega) cs rfl (rowsG 0 0 cs) (by omega) (r := true) _ 0 0 f1 rfl (Nat.zero_le _) hro (fun q h hm _ => (a2 q h).1 (.inl hm))
    obtain ⟨f3, c1, c2, c3⟩ := whole_l4 (cs.map encC) cs.length hL (by omega) cs rfl rfl htab.ok (r := true) 64 0 f2 rfl (by omega) (fun q h h4 _ => by
      rw [b1 q h (fun hm => by rcases hm with h0 | ⟨h1, _⟩ <;> omega)]
      exact (a2 q h).1 (.inr h4))
    refine a3 (Ev.bind hrows (b4 (c3 (whole_l6 _ _ hL (by omega) f3 (fun q hq => ?_) _ 0 rfl (Nat.zero_le _)))))
    by_cases hi : idle cs[q]
    · rcases hi with hm | h4
      · obtain ⟨s, hs, s1, s2⟩ := rowsG_cover cs _ 0 0 rfl (Nat.zero_le _) (Nat.le_refl _) q (.inr ⟨hq, Nat.zero_le _, hm⟩)
        rw [List.drop_zero] at hs
        exact c1 q (b3 q s (by rw [List.drop_zero]; exact hs) s1 s2)
      · have := okC_log (htab.ok _ (List.getElem_mem hq)) h4
        exact c2 q hq h4 (by omega)
    · exact c1 q (b2 q ((a2 q hq).2 hi))
end Go.Proofs.YtflbmccjfnkflaaDoor.Pure
