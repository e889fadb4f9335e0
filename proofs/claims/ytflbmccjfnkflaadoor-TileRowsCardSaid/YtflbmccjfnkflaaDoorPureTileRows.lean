import Derived.Test.YtflbmccjfnkflaaDoorStTileRows
import Derived.Test.YtflbmccjfnkflaaDoorTileRows
import Derived.Test.YtflbmccjfnkflaaDoorTileMade
set_option linter.unusedVariables false
set_option linter.unusedSimpArgs false
namespace Go.Proofs.YtflbmccjfnkflaaDoor.Pure
open Go.RowKit Go.Proofs.YtflbmccjfnkflaaDoor.Q Go.Proofs.YtflbmccjfnkflaaDoorW.PrintWords Go.Proofs.YtflbmccjfnkflaaDoorW.PrintLast
theorem awake_20 : lockfastlaw11_awake.f 20 = some true := by decide +kernel
theorem awake_ev : Ev (fun k => lockfastlaw11_awake.f k) true := Ev.of (fun k => lockfastlaw11_awake.mono k) awake_20
theorem rows_l1 (t : List Int) (cs : List Chk) (hc : cs.length ≤ 1048576) (rl : List Row) (j a m : Nat) (h1 : a + m ≤ cs.length) (hmay : ∀ k, ∀ h : k < cs.length, a ≤ k → k < a + m → may cs[k]) (hj : j < rl.length) (hrl : rl.length ≤ 1048576) {r : Bool}
    (h : Ev (fun k => lockfastlaw11_TileRows.l0 k true t cs ((a : Int) + m - 1) rl (rl.length : Int) ((j + 1 : Nat) : Int)) r) : ∀ (d n : Nat), m - n = d → n ≤ m →
    Ev (fun k => lockfastlaw11_TileRows.l1 k true t cs (n : Int) rl (rl.length : Int) (j : Int) (a : Int) (m : Int)) r := by
  intro d
  induction d with
  | zero =>
    intro n hd hn
    refine ev_next (fun k => ?_) h
    simp only [lockfastlaw11_TileRows.l1]
    rw [if_neg (by omega), w64 (x := (a : Int) + m) (by omega), w64 (x := (a : Int) + m - 1) (by omega), w64 (by omega)]
    rfl
  | succ d ih =>
    intro n hd hn
    have hlt : a + n < cs.length := by omega
    have hmy := hmay (a + n) hlt (by omega) (by omega)
    refine ev_next (f := fun k => lockfastlaw11_TileRows.l1 k true t cs ((n + 1 : Nat) : Int) rl (rl.length : Int) (j : Int) (a : Int) (m : Int)) (fun k => ?_) (ih (n + 1) (by omega) (by omega))
    simp only [lockfastlaw11_TileRows.l1]
    rw [if_pos (by omega), w64 (x := (a : Int) + n) (by omega), show (a : Int) + n = ((a + n : Nat) : Int) by omega, if_pos (by omega), if_pos (by omega), rdC cs _ hlt]
    by_cases h0 : cs[a + n].f0 = 0
    · rw [if_pos h0, w64 (by omega)]; rfl
    · rw [if_neg h0, empty_eq _ h0, Option.bind_some, if_pos (by simpa using hmy), w64 (by omega)]; rfl
theorem rows_l0' (t : List Int) (cs : List Chk) (ht : t.length = cs.length) (hc : cs.length ≤ 1048576) (rl : List Row) (hrl : rl.length ≤ 1048576) : ∀ (d j p : Nat) (last : Int), rl.length - j = d → j ≤ rl.length → RowsOk cs p (rl.drop j) → (last = -2 ∨ 0 ≤ last ∧ (p : Int) = last + 2 ∧ last ≤ 1048576) →
    Ev (fun k => lockfastlaw11_TileRows.l0 k true t cs last rl (rl.length : Int) (j : Int)) true := by
  intro d
  induction d with
  | zero =>
    intro j p last hd hj hr hl
    obtain rfl : j = rl.length := by omega
    exact ev_next (f := fun _ => some true) (fun k => by simp only [lockfastlaw11_TileRows.l0]; rw [if_neg (by omega)]) (ev_some _)
  | succ d ih =>
    intro j p last hd hj hr hl
    have hlt : j < rl.length := by omega
    rw [List.drop_eq_getElem_cons hlt] at hr
    obtain ⟨a, m, hs, hp, h1, h2, h3, h4, h5, h6⟩ := hr
    have hnext := ih (j + 1) (a + m + 1) ((a : Int) + m - 1) (by omega) (by omega) h6 (Or.inr (by omega))
    have hl1 := rows_l1 t cs hc rl j a m h2 h5 hlt hrl hnext m 0 (by omega) (by omega)
    have hj3 : Ev (fun k => lockfastlaw11_TileRows.j3 k true t cs rl (rl.length : Int) (j : Int) false (a : Int) (m : Int)) true :=
      ev_next (fun k => by simp only [lockfastlaw11_TileRows.j3]; rw [if_neg (by simp)]; rfl) hl1
    have hlast : Ev (fun k => if ((a : Int) + m) < (t.length : Int) then (if 0 ≤ ((a : Int) + m) then (if ((a : Int) + m) < (cs.length : Int) then (if ((rd_T29 cs ((a : Int) + m)).f0) = 0 then (lockfastlaw11_TileRows.j3 k true t cs rl (rl.length : Int) (j : Int) true (a : Int) (m : Int)) else ((chunk_Empty.f ((rd_T29 cs ((a : Int) + m)).f0) ((rd_T29 cs ((a : Int) + m)).f1) ((rd_T29 cs ((a : Int) + m)).f2) ((rd_T29 cs ((a : Int) + m)).f3) ((rd_T29 cs ((a : Int) + m)).f4)).bind fun t274 => (lockfastlaw11_TileRows.j3 k true t cs rl (rl.length : Int) (j : Int) t274 (a : Int) (m : Int)))) else (none)) else (none)) else (lockfastlaw11_TileRows.j3 k true t cs rl (rl.length : Int) (j : Int) false (a : Int) (m : Int))) true := by
      by_cases hx : a + m < cs.length
      · have hn := h4 hx
        have h0 : ¬ cs[a + m].f0 = 0 := fun h => hn (Or.inl h)
        refine Ev.congr (fun k => by rw [if_pos (by omega), if_pos (by omega), if_pos (by omega), show (a : Int) + m = ((a + m : Nat) : Int) by omega, rdC cs _ hx, if_neg h0, empty_eq _ h0, Option.bind_some, decide_eq_false hn]) hj3
      · exact Ev.congr (fun k => by rw [if_neg (by omega)]) hj3
    have hj2 : Ev (fun k => lockfastlaw11_TileRows.j2 k true t cs rl (rl.length : Int) (j : Int) false (a : Int) (m : Int)) true := by
      refine Ev.step (fun k => by simp only [lockfastlaw11_TileRows.j2]; rw [if_neg (by simp)]) ?_
      rw [w64 (x := (a : Int) + m) (by omega)]
      by_cases ha : (a : Int) > 0
      · refine Ev.congr (fun k => by rw [if_pos ha, w64 (x := (a : Int) - 1) (by omega)]) ?_
        have hx : a - 1 < cs.length := by omega
        have hn := h3 hx (by omega)
        have h0 : ¬ cs[a - 1].f0 = 0 := fun h => hn (Or.inl h)
        refine Ev.congr (fun k => by rw [if_pos (by omega), if_pos (by omega), show (a : Int) - 1 = ((a - 1 : Nat) : Int) by omega, rdC cs _ hx, if_neg h0, empty_eq _ h0, Option.bind_some, decide_eq_false hn, if_neg (by simp)]) hlast
      · exact Ev.congr (fun k => by rw [if_neg ha]) hlast
    have hb : decide (wrap64 ((a : Int) + m) > (t.length : Int)) = false := by rw [w64 (by omega), decide_eq_false_iff_not]; omega
    refine ev_next (fun k => ?_) hj2
    simp only [lockfastlaw11_TileRows.l0]
    rw [if_pos (by omega), if_pos (by omega), if_pos (by omega), rdR rl j hlt, hs]
    simp only []
    rw [if_neg (by omega), if_neg (show ¬ (a : Int) < 0 by omega), hb]
    rcases hl with rfl | ⟨hl0, hlp, hl2⟩
    · by_cases hy : (a : Int) ≤ wrap64 (-2 + 1)
      · rw [if_pos hy, if_neg (by omega)]
      · rw [if_neg hy]
    · rw [if_neg (by rw [w64 (by omega)]; omega)]
theorem TileRows : lockfastlaw11_TileRows.Fact := by
  intro l _ _ hu
  suffices h : Ev (fun k => lockfastlaw11_TileRows.f k l) true from h.rounds
  have hu : ∀ x ∈ l, 0 ≤ x ∧ x ≤ 65535 := fun x hx => u16_range (hu x hx)
  unfold lockfastlaw11_TileRows.f
  refine Ev.bind awake_ev ?_
  by_cases h1 : (l.length : Int) > 60
  · exact Ev.congr (fun k => by rw [if_pos h1]) (ev_some _)
  · refine Ev.congr (fun k => by rw [if_neg h1]) ?_
    obtain ⟨cs, ht, hlen, hev⟩ := made_ev l 40 (by omega) (by omega) hu
    have hU := U64_enc cs ht.ok
    have hL : (cs.map encC).length ≤ 1048576 := by rw [List.length_map]; omega
    refine Ev.bind hev (Ev.bind (chunks_ev _ hL hU) ?_)
    rw [chV_enc cs ht.ok]
    refine Ev.congr (fun k => by rw [if_pos (by trivial), List.length_map, show ((cs.length : Int) != (cs.length : Int)) = false by simp]) ?_
    refine Ev.step (fun k => by simp only [lockfastlaw11_TileRows.j0]; rw [if_neg (by simp)]) ?_
    refine Ev.bind (rows_ev _ hL hU) ?_
    have hr : rowsV (cs.map encC) = rowsG 0 0 cs := by unfold rowsV; rw [chV_enc cs ht.ok]
    rw [hr]
    have hok := rowsG_ok cs _ 0 0 0 rfl (by omega) (by omega) (by omega) (fun k h h3 h4 => by omega) (fun h h3 => by omega)
    rw [List.drop_zero] at hok
    have hrl : (rowsG 0 0 cs).length ≤ 1048576 := by
      have : ∀ (cs : List Chk) (i n : Nat), (rowsG i n cs).length ≤ cs.length + 1 := by
        intro cs
        induction cs with
        | nil => intro i n; rw [rowsG]; unfold openR; split <;> simp
        | cons c cs ih =>
          intro i n
          rw [rowsG]
          split
          · have := ih (i + 1) (n + 1); simp; omega
          · have := ih (i + 1) 0
            rw [List.length_append]; unfold openR; split <;> simp <;> omega
      have := this cs 0 0
      omega
    exact rows_l0' (cs.map encC) cs (by simp) (by omega) _ hrl _ 0 0 (-2) rfl (by omega) (by simpa using hok) (Or.inl rfl)
end Go.Proofs.YtflbmccjfnkflaaDoor.Pure
