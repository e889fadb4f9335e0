/- What the document tells of a table: blocks, rows, logs. -/
import Derived.Test.YtflbmccjfnkflaaDoorTileBlocks
import Derived.Test.YtflbmccjfnkflaaDoorTileRows
import Derived.Test.YtflbmccjfnkflaaDoorStable
import Derived.Test.YtflbmccjfnkflaaDoorQx33
import Derived.Test.YtflbmccjfnkflaaDoorQx24
import Derived.Test.YtflbmccjfnkflaaDoorQx16
import Derived.Test.YtflbmccjfnkflaaDoorQx34
import Derived.Test.YtflbmccjfnkflaaDoorQx25
set_option linter.unusedVariables false
set_option linter.unusedSimpArgs false
namespace Go.Proofs.YtflbmccjfnkflaaDoor.Pure
open Go.RowKit Go.Sort Go.Proofs.YtflbmccjfnkflaaDoor.StableSort Go.Proofs.YtflbmccjfnkflaaDoor.Q Go.Proofs.YtflbmccjfnkflaaDoorW.PrintWords Go.Proofs.YtflbmccjfnkflaaDoorW.PrintLast Go.Proofs.YtflbmccjfnkflaaDoorW.PrintMore
/-! rows -/
theorem refMay_eq (c : Chk) : lockfastref11_May.f c.f0 c.f1 c.f2 c.f3 c.f4 = some (decide (may c)) := by
  unfold lockfastref11_May.f may
  by_cases h0 : c.f0 = 0
  · rw [if_pos h0]; simp [h0]
  · rw [if_neg h0]
    by_cases h1 : c.f0 = 1
    · rw [if_pos h1]
      refine congrArg some ?_
      rw [Bool.eq_iff_iff]; simp [h1]
    · rw [if_neg h1]; simp [h0, h1]
theorem refRows_end (cs : List Chk) (R : List Row) (i : Nat) (h : cs.length ≤ i) : Ev (fun k => lockfastref11_Rows.l0 k cs R (i : Int)) R :=
  ev_next (f := fun _ => some R) (fun k => by simp only [lockfastref11_Rows.l0]; rw [if_neg (by omega)]) (ev_some _)
theorem refRows_l0 (cs : List Chk) (R : List Row) (i : Nat) (h : i ≤ cs.length) (r : List Row) (hr : r = R ++ rowsG i 0 (cs.drop i))
    (h1 : i < cs.length → Ev (fun k => lockfastref11_Rows.l1 k cs R (i : Int) (i : Int)) (R ++ rowsG i 0 (cs.drop i))) : Ev (fun k => lockfastref11_Rows.l0 k cs R (i : Int)) r := by
  subst hr
  by_cases hlt : i < cs.length
  · exact ev_next (f := fun k => lockfastref11_Rows.l1 k cs R (i : Int) (i : Int)) (fun k => by simp only [lockfastref11_Rows.l0]; rw [if_pos (by omega)]) (h1 hlt)
  · obtain rfl : i = cs.length := by omega
    refine ev_eq (refRows_end cs R _ (Nat.le_refl _)) ?_
    rw [List.drop_length]
    simp [rowsG, openR]
theorem refRows_l1 (cs : List Chk) (hl : cs.length ≤ 1048576) : ∀ (d i n : Nat) (R : List Row), cs.length - i = d → i ≤ cs.length → n ≤ i → R.length ≤ i →
    Ev (fun k => lockfastref11_Rows.l1 k cs R ((i - n : Nat) : Int) (i : Int)) (R ++ rowsG i n (cs.drop i)) := by
  intro d
  induction d with
  | zero =>
    intro i n R hd hi hn hR
    obtain rfl : i = cs.length := by omega
    rw [List.drop_length]
    by_cases h0 : n = 0
    · subst h0
      refine ev_next (f := fun k => lockfastref11_Rows.l0 k cs R ((cs.length + 1 : Nat) : Int)) (fun k => ?_) (ev_eq (refRows_end cs R _ (by omega)) (by simp [rowsG, openR]))
      simp only [lockfastref11_Rows.l1]
      rw [if_neg (by omega), if_neg (by omega), w64 (by omega)]
      rfl
    · refine ev_next (f := fun k => lockfastref11_Rows.l0 k cs (R ++ [⟨((cs.length - n : Nat) : Int), (n : Int)⟩]) ((cs.length + 1 : Nat) : Int)) (fun k => ?_) (ev_eq (refRows_end cs _ _ (by omega)) (by simp [rowsG, openR, h0]))
      simp only [lockfastref11_Rows.l1]
      rw [if_neg (by omega), if_pos (by omega), if_pos (by omega), w64 (by omega), w64 (by omega), show (cs.length : Int) - ((cs.length - n : Nat) : Int) = (n : Int) by omega]
      rfl
  | succ d ih =>
    intro i n R hd hi hn hR
    have hlt : i < cs.length := by omega
    rw [List.drop_eq_getElem_cons hlt]
    have step : ∀ k, lockfastref11_Rows.l1 (k + 1) cs R ((i - n : Nat) : Int) (i : Int) = if decide (may cs[i]) = true then lockfastref11_Rows.l1 k cs R ((i - n : Nat) : Int) ((i + 1 : Nat) : Int) else if n = 0 then lockfastref11_Rows.l0 k cs R ((i + 1 : Nat) : Int) else lockfastref11_Rows.l0 k cs (R ++ [⟨((i - n : Nat) : Int), (n : Int)⟩]) ((i + 1 : Nat) : Int) := fun k => by
      simp only [lockfastref11_Rows.l1]
      rw [if_pos (by omega), if_pos (by omega), rdC cs i hlt, refMay_eq, Option.bind_some, w64 (by omega), show (i : Int) + 1 = ((i + 1 : Nat) : Int) by omega]
      by_cases hm : decide (may cs[i]) = true
      · rw [if_pos hm, if_pos hm]
      · rw [if_neg hm, if_neg hm]
        by_cases h0 : n = 0
        · rw [if_pos h0, if_neg (show ¬ (i : Int) > ((i - n : Nat) : Int) by omega)]
        · rw [if_neg h0, if_pos (show (i : Int) > ((i - n : Nat) : Int) by omega), if_pos (by omega), w64 (by omega), show (i : Int) - ((i - n : Nat) : Int) = (n : Int) by omega]
    by_cases hm : may cs[i]
    · rw [rowsG, if_pos hm]
      refine ev_next (fun k => by rw [step, if_pos (decide_eq_true hm)]) ?_
      have h := ih (i + 1) (n + 1) R (by omega) (by omega) (by omega) (by omega)
      rw [show i + 1 - (n + 1) = i - n by omega] at h
      exact h
    · rw [rowsG, if_neg hm]
      by_cases h0 : n = 0
      · refine ev_next (fun k => by rw [step, if_neg (by simp [hm]), if_pos h0]) ?_
        refine refRows_l0 cs R (i + 1) (by omega) _ (by simp [openR, h0]) (fun h => ?_)
        exact ih (i + 1) 0 R (by omega) (by omega) (by omega) (by omega)
      · refine ev_next (fun k => by rw [step, if_neg (by simp [hm]), if_neg h0]) ?_
        refine refRows_l0 cs _ (i + 1) (by omega) _ (by simp [openR, h0]) (fun h => ?_)
        exact ih (i + 1) 0 _ (by omega) (by omega) (by omega) (by simp; omega)
theorem refRows_ev (l : List Int) (hl : l.length ≤ 1048576) (hw : U64 l) : Ev (fun k => lockfastref11_Rows.f k l) (rowsV l) := by
  unfold lockfastref11_Rows.f
  refine Ev.bind (refChunks_ev l hl hw) ?_
  exact refRows_l0 _ [] 0 (Nat.zero_le _) _ (by simp [rowsV]) (fun _ => refRows_l1 _ (Nat.le_trans (chV_len l) hl) _ 0 0 [] rfl (Nat.zero_le _) (Nat.le_refl _) (Nat.zero_le _))
theorem rowsG_len (cs : List Chk) : ∀ i n : Nat, (rowsG i n cs).length ≤ cs.length + 1 := by
  induction cs with
  | nil => intro i n; unfold rowsG openR; split <;> simp
  | cons c cs ih =>
    intro i n
    rw [rowsG]
    split
    · have := ih (i + 1) (n + 1); simp; omega
    · have := ih (i + 1) 0
      have h : (openR i n).length ≤ 1 := by unfold openR; split <;> simp
      simp; omega
/-! equal lists -/
theorem sameS_l0 (a : List Row) (hm : a.length ≤ 2097152) : ∀ (d i : Nat), a.length - i = d → i ≤ a.length → Ev (fun k => lockfastref04_Same.l0 k a a (i : Int)) true := by
  intro d
  induction d with
  | zero =>
    intro i hd hi
    obtain rfl : i = a.length := by omega
    exact ev_next (f := fun _ => some true) (fun k => by simp only [lockfastref04_Same.l0]; rw [if_neg (by omega)]) (ev_some true)
  | succ d ih =>
    intro i hd hi
    have ha : i < a.length := by omega
    refine ev_next (f := fun k => lockfastref04_Same.l0 k a a ((i + 1 : Nat) : Int)) (fun k => ?_) (ih (i + 1) (by omega) (by omega))
    simp only [lockfastref04_Same.l0]
    rw [if_pos (by omega), if_pos (by omega), if_pos (by omega), if_neg (by simp), w64 (by omega)]
    rfl
theorem sameS_ev (a : List Row) (hm : a.length ≤ 2097152) : Ev (fun k => lockfastref04_Same.f k a a) true := by
  have h1 := sameS_l0 a hm a.length 0 (by omega) (by omega)
  exact Ev.congr (f := fun k => lockfastref04_Same.l0 k a a 0) (fun k => by simp only [lockfastref04_Same.f, if_true]) (by simpa using h1)
theorem ints_l0 (a : List Int) (hm : a.length ≤ 2097152) : ∀ (d i : Nat), a.length - i = d → i ≤ a.length → Ev (fun k => lockfastref01_Ints.l0 k a a (i : Int)) true := by
  intro d
  induction d with
  | zero =>
    intro i hd hi
    obtain rfl : i = a.length := by omega
    exact ev_next (f := fun _ => some true) (fun k => by simp only [lockfastref01_Ints.l0]; rw [if_neg (by omega)]) (ev_some true)
  | succ d ih =>
    intro i hd hi
    have ha : i < a.length := by omega
    refine ev_next (f := fun k => lockfastref01_Ints.l0 k a a ((i + 1 : Nat) : Int)) (fun k => ?_) (ih (i + 1) (by omega) (by omega))
    simp only [lockfastref01_Ints.l0, if_true]
    rw [if_pos (by omega), if_pos (by omega), if_pos (by omega), w64 (by omega)]
    rfl
theorem ints_ev (a : List Int) (hm : a.length ≤ 2097152) : Ev (fun k => lockfastref01_Ints.f k a a) true := by
  have h1 := ints_l0 a hm a.length 0 (by omega) (by omega)
  exact Ev.congr (f := fun k => lockfastref01_Ints.l0 k a a 0) (fun k => by simp only [lockfastref01_Ints.f, if_true]) (by simpa using h1)
/-! logs -/
theorem logIdx_rise (xs : List Chk) (lane : Int) : (logIdx xs lane).Pairwise (· < ·) := by
  unfold logIdx
  rw [List.pairwise_map]
  refine List.Pairwise.filter _ ?_
  have h : (xs.zipIdx.map Prod.snd).Pairwise (· < ·) := by
    rw [List.zipIdx_map_snd]
    exact List.pairwise_lt_range'
  rw [List.pairwise_map] at h
  exact h.imp (fun h => by omega)
theorem logIdx_mem (xs : List Chk) (lane : Int) (z : Int) (hz : z ∈ logIdx xs lane) : ∃ i : Nat, ∃ h : i < xs.length, z = (i : Int) ∧ xs[i].f0 = 4 ∧ xs[i].f2 = lane := by
  unfold logIdx at hz
  obtain ⟨p, hp, rfl⟩ := List.mem_map.1 hz
  obtain ⟨h1, h2⟩ := List.mem_filter.1 hp
  have h3 := List.mem_zipIdx h1
  simp only [Bool.and_eq_true, beq_iff_eq] at h2
  refine ⟨p.2, by omega, rfl, ?_, ?_⟩
  · have := h3.2.2; simp only [Nat.sub_zero] at this; rw [← this]; exact h2.1
  · have := h3.2.2; simp only [Nat.sub_zero] at this; rw [← this]; exact h2.2
theorem manyAt_nat (xs : List Chk) (i : Nat) (h : i < xs.length) : manyAt xs (i : Int) = xs[i].f3 := by
  unfold manyAt clN
  rw [if_pos (by omega), rdC xs i h]
theorem ltOf_eq (K : Int → Int) : (ltOf fun x y => cmpI (K x) (K y)) = ltK K := by
  funext x y
  have h : cmpI (K x) (K y) < 0 ↔ K x < K y := by
    unfold cmpI
    by_cases h1 : K x < K y
    · rw [if_pos h1]; simp [h1]
    · rw [if_neg h1]
      by_cases h2 : K x > K y
      · rw [if_pos h2]; simp [h1]
      · rw [if_neg h2]; simp [h1]
  exact decide_eq_decide.2 h
theorem logsOf_eq (cs : List Chk) (hok : ∀ c ∈ cs, okC c) (lane : Int) : logsOf cs lane = byKey (manyAt cs) (logIdx cs lane) 8 := by
  unfold logsOf
  rw [ltOf_eq]
  refine stab_byKey (manyAt cs) _ (logIdx_rise cs lane) 8 (fun x hx => ?_)
  obtain ⟨i, h, rfl, h4, _⟩ := logIdx_mem cs lane x hx
  rw [manyAt_nat cs i h]
  have := okC_log (hok _ (List.getElem_mem h)) h4
  omega
theorem refLogs_l1 (cs : List Chk) (hl : cs.length ≤ 1048576) (lane : Int) (n : Nat) (hn : n < 8) (acc : List Int) (ha : acc.length ≤ 8388608) {r : List Int}
    (h0 : Ev (fun k => lockfastref11_Logs.l0 k lane cs (acc ++ (logIdx cs lane).filter fun x => manyAt cs x == (n : Int)) ((n + 1 : Nat) : Int)) r) : ∀ (d i : Nat), cs.length - i = d → i ≤ cs.length →
    Ev (fun k => lockfastref11_Logs.l1 k lane cs (acc ++ (logIdx (cs.take i) lane).filter fun x => manyAt cs x == (n : Int)) (n : Int) (i : Int)) r := by
  intro d
  induction d with
  | zero =>
    intro i hd hi
    obtain rfl : i = cs.length := by omega
    rw [List.take_length]
    refine ev_next (fun k => ?_) h0
    simp only [lockfastref11_Logs.l1]
    rw [if_neg (by omega), w64 (by omega)]
    rfl
  | succ d ih =>
    intro i hd hi
    have hlt : i < cs.length := by omega
    have h := ih (i + 1) (by omega) (by omega)
    rw [logIdx_take cs lane i hlt, List.filter_append, ← List.append_assoc] at h
    have hlen : (acc ++ (logIdx (cs.take i) lane).filter fun x => manyAt cs x == (n : Int)).length ≤ 9437184 := by
      have h1 := logIdx_len (cs.take i) lane
      have h2 := List.length_filter_le (fun x => manyAt cs x == (n : Int)) (logIdx (cs.take i) lane)
      rw [List.length_take] at h1
      rw [List.length_append]
      omega
    generalize (acc ++ (logIdx (cs.take i) lane).filter fun x => manyAt cs x == (n : Int)) = A at h hlen ⊢
    have step : ∀ k, lockfastref11_Logs.l1 (k + 1) lane cs A (n : Int) (i : Int) = lockfastref11_Logs.l1 k lane cs (A ++ (if cs[i].f0 = 4 ∧ cs[i].f2 = lane then [(i : Int)] else []).filter fun x => manyAt cs x == (n : Int)) (n : Int) ((i + 1 : Nat) : Int) := fun k => by
      simp only [lockfastref11_Logs.l1]
      rw [if_pos (by omega), if_pos (by omega), rdC cs i hlt, w64 (by omega), show (i : Int) + 1 = ((i + 1 : Nat) : Int) by omega]
      by_cases e1 : cs[i].f0 = 4
      · by_cases e2 : cs[i].f2 = lane
        · rw [if_pos e1, if_pos e2, if_pos (And.intro e1 e2)]
          by_cases e3 : cs[i].f3 = (n : Int)
          · rw [if_pos e3, if_pos (by omega), List.filter_cons, if_pos (by rw [manyAt_nat cs i hlt, e3]; simp), List.filter_nil]
          · rw [if_neg e3, List.filter_cons, if_neg (by rw [manyAt_nat cs i hlt]; simp [e3]), List.filter_nil, List.append_nil]
        · rw [if_pos e1, if_neg e2, if_neg (fun h => e2 h.2), List.filter_nil, List.append_nil]
      · rw [if_neg e1, if_neg (fun h => e1 h.1), List.filter_nil, List.append_nil]
    exact ev_next step h
theorem byKey_len (K : Int → Int) (l : List Int) : ∀ m : Nat, (byKey K l m).length ≤ m * l.length := by
  intro m
  induction m with
  | zero => simp [byKey]
  | succ m ih =>
    rw [byKey_succ, List.length_append]
    have := List.length_filter_le (fun x => K x == (m : Int)) l
    rw [Nat.succ_mul]
    omega
theorem refLogs_l0 (cs : List Chk) (hl : cs.length ≤ 1048576) (lane : Int) : ∀ (e n : Nat), 8 - n = e → n ≤ 8 →
    Ev (fun k => lockfastref11_Logs.l0 k lane cs (byKey (manyAt cs) (logIdx cs lane) n) (n : Int)) (byKey (manyAt cs) (logIdx cs lane) 8) := by
  intro e
  induction e with
  | zero =>
    intro n he hn
    obtain rfl : n = 8 := by omega
    exact ev_next (f := fun _ => some (byKey (manyAt cs) (logIdx cs lane) 8)) (fun k => by simp only [lockfastref11_Logs.l0]; rw [if_neg (by omega)]) (ev_some _)
  | succ e ih =>
    intro n he hn
    have h0 := ih (n + 1) (by omega) (by omega)
    rw [byKey_succ] at h0
    have hb := byKey_len (manyAt cs) (logIdx cs lane) n
    have hi := logIdx_len cs lane
    have h1 := refLogs_l1 cs hl lane n (by omega) (byKey (manyAt cs) (logIdx cs lane) n) (by have : n * (logIdx cs lane).length ≤ 8 * 1048576 := Nat.mul_le_mul (by omega) (by omega); omega) h0 _ 0 rfl (Nat.zero_le _)
    refine ev_next (fun k => ?_) h1
    simp only [lockfastref11_Logs.l0]
    rw [if_pos (by omega)]
    simp [logIdx]
theorem refLogs_ev (l : List Int) (lane : Int) (hl : l.length ≤ 1048576) (hw : U64 l) : Ev (fun k => lockfastref11_Logs.f k l lane) (logsOf (chV l).1 lane) := by
  unfold lockfastref11_Logs.f
  refine Ev.bind (refChunks_ev l hl hw) ?_
  rw [logsOf_eq _ (chV_ok l)]
  exact refLogs_l0 _ (Nat.le_trans (chV_len l) hl) lane 8 0 rfl (Nat.zero_le _)
theorem logs_ev (l : List Int) (lane : Int) (hl : l.length ≤ 40) (hw : U64 l) : Ev (fun k => tile_Logs.f k l lane) (logsOf (chV l).1 lane) := by
  unfold tile_Logs.f
  refine Ev.bind (chunks_ev l (by omega) hw) ?_
  have h1 := chV_len l
  have h2 := logIdx_len (chV l).1 lane
  exact Ev.congr (fun k => by rw [if_pos ⟨by omega, by omega⟩]) (ev_some _)
/-! blocks -/
theorem live_bit : ∀ b : Fin 256, ∀ j : Fin 8, ((Int.tmod (IntKind.u64.wrap (Int.tdiv ((b.val : Nat) : Int) ((2 ^ j.val : Nat) : Int))) 2) == 1) = bitAt ((b.val : Nat) : Int) j.val := by decide +kernel
theorem power_ev (j : Nat) (h : j < 8) : Ev (fun k => lockfastref10_power.f k (j : Int)) ((2 ^ j : Nat) : Int) := by
  have e : ∀ j : Fin 8, lockfastref10_power.f 20 ((j.val : Nat) : Int) = some ((2 ^ j.val : Nat) : Int) := by decide +kernel
  exact Ev.of (fun k => lockfastref10_power.mono _ k) (e ⟨j, h⟩)
theorem live_ev (a0 a1 a2 a3 b : Int) (hb : 0 ≤ b ∧ b < 256) (j : Nat) (h : j < 8) : Ev (fun k => lockfastref10_Live.f k a0 a1 a2 a3 b (j : Int)) (bitAt b j) := by
  unfold lockfastref10_Live.f
  refine Ev.bind (power_ev j h) ?_
  have h2 := Nat.two_pow_pos j
  obtain ⟨n, rfl⟩ : ∃ n : Nat, b = (n : Int) := ⟨b.toNat, by omega⟩
  exact Ev.congr (f := fun _ => some _) (fun k => by rw [if_neg (by omega)]) (ev_eq (ev_some _) (live_bit ⟨n, by omega⟩ ⟨j, h⟩))
theorem refBlock_eq (c : Int) : lockfastref09_Block.f c = some (blockW c) := by
  unfold lockfastref09_Block.f blockW
  repeat' split
  all_goals rfl
theorem refBlocks_l1 (cs : List Chk) (hl : cs.length ≤ 1048576) (i : Nat) (hi : i < cs.length) (hc : okC cs[i]) (acc : List Blk) (ha : acc.length ≤ 104857600) {r : List Blk}
    (h0 : Ev (fun k => lockfastref11_Blocks.l0 k cs (acc ++ (onesI cs[i].f4 (manyW cs[i].f1)).map (mkB i cs[i].f1)) ((i + 1 : Nat) : Int)) r) :
    Ev (fun k => lockfastref11_Blocks.l1 k cs acc (i : Int) 0) r := by
  have hw1 : wrap64 ((i : Int) + 1) = ((i + 1 : Nat) : Int) := w64 (by omega)
  by_cases hk : cs[i].f0 = 1
  · have hrun := okC_run hc hk
    have hb4 := hc.2
    obtain ⟨M, hM, hM8⟩ : ∃ M : Nat, manyW cs[i].f1 = (M : Int) ∧ M ≤ 8 := by
      rcases hrun.2.2 with h | h | h
      · exact ⟨8, by rw [h.1]; decide, by omega⟩
      · exact ⟨4, by rw [h.1]; decide, by omega⟩
      · exact ⟨2, by rw [h.1]; decide, by omega⟩
    have hb : 0 ≤ cs[i].f4 ∧ cs[i].f4 < 256 := by omega
    have hmany := many_ev cs[i].f1 (by omega)
    have hones : onesI cs[i].f4 (manyW cs[i].f1) = ((List.range M).filter (bitAt cs[i].f4)).map fun (k : Nat) => (k : Int) := by
      unfold onesI ones
      rw [hM]
      congr 3
      omega
    rw [hones, List.map_map] at h0
    have key : ∀ (d j : Nat), M - j = d → j ≤ M → Ev (fun k => lockfastref11_Blocks.l1 k cs (acc ++ ((List.range j).filter (bitAt cs[i].f4)).map (mkB i cs[i].f1 ∘ fun (k : Nat) => (k : Int))) (i : Int) (j : Int)) r := by
      intro d
      induction d with
      | zero =>
        intro j hd hj
        obtain rfl : j = M := by omega
        refine Ev.step (fun k => by simp only [lockfastref11_Blocks.l1]; rw [if_pos (by omega), if_pos (by omega), rdC cs i hi, if_pos hk]) ?_
        refine Ev.bind hmany ?_
        refine ev_next (fun k => ?_) h0
        simp only [lockfastref11_Blocks.j3]
        rw [if_neg (by rw [hM]; simp), hw1]
      | succ d ih =>
        intro j hd hj
        have h1 := ih (j + 1) (by omega) (by omega)
        rw [List.range_succ, List.filter_append, List.map_append, ← List.append_assoc] at h1
        have hlen : (acc ++ ((List.range j).filter (bitAt cs[i].f4)).map (mkB i cs[i].f1 ∘ fun (k : Nat) => (k : Int))).length ≤ 104857608 := by
          rw [List.length_append, List.length_map]
          have := List.length_filter_le (bitAt cs[i].f4) (List.range j)
          rw [List.length_range] at this
          omega
        generalize (acc ++ ((List.range j).filter (bitAt cs[i].f4)).map (mkB i cs[i].f1 ∘ fun (k : Nat) => (k : Int))) = A at h1 hlen ⊢
        refine Ev.step (fun k => by simp only [lockfastref11_Blocks.l1]; rw [if_pos (by omega), if_pos (by omega), rdC cs i hi, if_pos hk]) ?_
        refine Ev.bind hmany ?_
        refine Ev.step (fun k => by simp only [lockfastref11_Blocks.j3]; rw [if_pos (by rw [hM]; simp; omega), if_pos (by omega), if_pos (by omega), rdC cs i hi]) ?_
        refine Ev.bind (live_ev _ _ _ _ _ hb j (by omega)) ?_
        have hwj : wrap64 ((j : Int) + 1) = ((j + 1 : Nat) : Int) := w64 (by omega)
        cases hbit : bitAt cs[i].f4 j with
        | true =>
          refine Ev.congr (fun k => by rw [if_pos rfl, refBlock_eq, Option.bind_some, if_pos (by omega), hwj]) ?_
          simpa [hbit, mkB] using h1
        | false =>
          refine Ev.congr (fun k => by rw [if_neg (by decide), hwj]) ?_
          simpa [hbit] using h1
    have h := key M 0 (by omega) (by omega)
    simpa using h
  · have hnone : onesI cs[i].f4 (manyW cs[i].f1) = [] := by
      have h4 : cs[i].f4 = 0 := by
        rcases okC_kind hc with h | h | h | h | h
        · exact (okC_plain hc (.inl h)).2.2.2
        · exact absurd h hk
        · exact (okC_huge hc h).2.2.1
        · exact (okC_plain hc (.inr h)).2.2.2
        · exact (okC_log hc h).2.1
      unfold onesI ones
      rw [List.map_eq_nil_iff, List.filter_eq_nil_iff]
      intro x hx
      rw [h4]
      unfold bitAt
      rw [Int.zero_ediv]
      decide
    rw [hnone, List.map_nil, List.append_nil] at h0
    refine Ev.step (fun k => by simp only [lockfastref11_Blocks.l1]; rw [if_pos (by omega), if_pos (by omega), rdC cs i hi, if_neg hk]) ?_
    refine ev_next (fun k => ?_) h0
    simp only [lockfastref11_Blocks.j3]
    rw [if_neg (by decide), hw1]
theorem refBlocks_l0 (cs : List Chk) (hl : cs.length ≤ 1048576) (hok : ∀ c ∈ cs, okC c) : ∀ (d i : Nat), cs.length - i = d → i ≤ cs.length →
    Ev (fun k => lockfastref11_Blocks.l0 k cs (blkAll (cs.take i)) (i : Int)) (blkAll cs) := by
  intro d
  induction d with
  | zero =>
    intro i hd hi
    obtain rfl : i = cs.length := by omega
    rw [List.take_length]
    exact ev_next (f := fun _ => some (blkAll cs)) (fun k => by simp only [lockfastref11_Blocks.l0]; rw [if_neg (by omega)]) (ev_some _)
  | succ d ih =>
    intro i hd hi
    have hlt : i < cs.length := by omega
    have h := ih (i + 1) (by omega) (by omega)
    rw [blkAll_take cs i hlt] at h
    unfold blkOne at h
    rw [← List.append_assoc] at h
    have hlen := blkAll_take_len cs i (by omega)
    have hh := huge_len i cs[i].f0 cs[i].f3
    have hj := refBlocks_l1 cs hl i hlt (hok _ (List.getElem_mem hlt)) (blkAll (cs.take i) ++ huge i cs[i].f0 cs[i].f3) (by rw [List.length_append]; omega) h
    have hj1 : Ev (fun k => lockfastref11_Blocks.j1 k cs (blkAll (cs.take i) ++ huge i cs[i].f0 cs[i].f3) (i : Int)) (blkAll cs) := ev_next (fun k => by simp only [lockfastref11_Blocks.j1]) hj
    refine ev_next (fun k => ?_) hj1
    simp only [lockfastref11_Blocks.l0]
    rw [if_pos (by omega), if_pos (by omega), rdC cs i hlt]
    unfold huge
    by_cases h2 : cs[i].f0 = 2
    · rw [if_pos h2, if_pos h2, if_pos (by omega), Int.mul_comm]
    · rw [if_neg h2, if_neg h2, List.append_nil]
theorem refBlocks_ev (l : List Int) (hl : l.length ≤ 1048576) (hw : U64 l) : Ev (fun k => lockfastref11_Blocks.f k l) (blkAll (chV l).1) := by
  unfold lockfastref11_Blocks.f
  refine Ev.bind (refChunks_ev l hl hw) ?_
  have h := refBlocks_l0 (chV l).1 (Nat.le_trans (chV_len l) hl) (chV_ok l) _ 0 rfl (Nat.zero_le _)
  simpa [blkAll] using h
end Go.Proofs.YtflbmccjfnkflaaDoor.Pure
