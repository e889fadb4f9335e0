/- Package piece: At and Cut, and the reference's, by one plain word each. -/
import Derived.Test.YtccnoemcpmdeaaaPieceLib
set_option linter.unusedVariables false
set_option linter.unusedSimpArgs false
namespace Go.Proofs.Ytccnoemcpmdeaaa.Pure
open Go.RowKit Go.Proofs.Ytccnoemcpmdeaaa.Q Go.Proofs.YtccnoemcpmdeaaaW.PrintWords Go.Proofs.YtccnoemcpmdeaaaW.PrintLast Go.Proofs.YtccnoemcpmdeaaaW.PrintMore

def atSpec (l : List S24) (i : Int) : Int := if 0 ≤ i then ((plAll l)[i.toNat]?.map Int.ofNat).getD (-1) else -1

theorem at_l0 (l : List S24) (hf : plFits l) : ∀ (d a : Nat) (x : Int), l.length - a = d → a ≤ l.length → -4398046511104 - (a : Int) * 1048576 ≤ x → x ≤ 4398046511104 →
    Ev (fun k => piece_At.l0 k x l (l.length : Int) (a : Int)) (atSpec (l.drop a) x) := by
  intro d
  have hl := hf.2
  induction d with
  | zero =>
    intro a x hd ha h0 h1
    obtain rfl : a = l.length := by omega
    refine ev_next (f := fun _ => some (-1)) (fun k => by simp only [piece_At.l0]; rw [if_neg (by omega)]) (ev_eq (ev_some (-1)) ?_)
    simp [atSpec, plAll]
  | succ d ih =>
    intro a x hd ha h0 h1
    have hlt : a < l.length := by omega
    obtain ⟨b0, b1, a1, a2⟩ := fitsAt hf a hlt
    have hsp : plAll (l.drop a) = plOne l[a] ++ plAll (l.drop (a + 1)) := plAll_drop l a hlt
    by_cases h2 : 0 ≤ x
    · refine ev_next (f := fun k => piece_At.j1 k x l (l.length : Int) (a : Int) (decide (x < l[a].f1)) l[a].f0 l[a].f1) (fun k => ?_) ?_
      · simp only [piece_At.l0]
        rw [if_pos (by omega), if_pos (by omega), if_pos (by omega), rdS l a hlt, if_pos h2]
      · by_cases h3 : x < l[a].f1
        · refine ev_next (f := fun _ => some (l[a].f0 + x)) (fun k => ?_) (ev_eq (ev_some _) ?_)
          · simp only [piece_At.j1]
            rw [if_pos (decide_eq_true h3), w64 (by omega)]
          · unfold atSpec
            rw [if_pos h2, hsp, List.getElem?_append_left (by rw [plOne_length]; omega)]
            simp [plOne, show x.toNat < l[a].f1.toNat by omega]
            omega
        · refine ev_next (f := fun k => piece_At.l0 k (x - l[a].f1) l (l.length : Int) ((a + 1 : Nat) : Int)) (fun k => ?_) (ev_eq (ih (a + 1) (x - l[a].f1) (by omega) (by omega) (by omega) (by omega)) ?_)
          · simp only [piece_At.j1]
            rw [if_neg (by simp; omega), w64 (by omega), if_neg (by omega), w64 (by omega)]
            rfl
          · unfold atSpec
            rw [if_pos (by omega), if_pos h2, hsp, List.getElem?_append_right (by rw [plOne_length]; omega), plOne_length]
            congr 3
            omega
    · refine ev_next (f := fun k => piece_At.j1 k x l (l.length : Int) (a : Int) false l[a].f0 l[a].f1) (fun k => ?_) ?_
      · simp only [piece_At.l0]
        rw [if_pos (by omega), if_pos (by omega), if_pos (by omega), rdS l a hlt, if_neg h2]
      · refine ev_next (f := fun _ => some (-1)) (fun k => ?_) (ev_eq (ev_some _) ?_)
        · simp only [piece_At.j1]
          rw [if_neg (by simp), w64 (by omega), if_pos (by omega)]
        · unfold atSpec; rw [if_neg h2]
theorem at_ev (l : List S24) (hf : plFits l) (x : Int) (h0 : -4398046511104 ≤ x) (h1 : x ≤ 4398046511104) : Ev (fun k => piece_At.f k l x) (atSpec l x) := by
  have h := at_l0 l hf l.length 0 x (by omega) (by omega) (by omega) h1
  simpa [piece_At.f] using h
theorem refAt_ev (l : List S24) (hf : plFits l) (x : Int) : Ev (fun k => lockfastref14_At.f k l x) (atSpec l x) := by
  unfold lockfastref14_At.f
  refine Ev.bind (places_ev l hf) ?_
  by_cases h0 : x < 0
  · have e : atSpec l x = -1 := by unfold atSpec; rw [if_neg (by omega)]
    rw [e]
    exact Ev.congr (f := fun _ => some (-1)) (fun k => by rw [if_pos h0]) (ev_some _)
  · by_cases h1 : x ≥ ((plAll l).length : Int)
    · have e : atSpec l x = -1 := by unfold atSpec; rw [if_pos (by omega), List.getElem?_eq_none (by omega)]; rfl
      rw [e]
      exact Ev.congr (f := fun _ => some (-1)) (fun k => by rw [if_neg h0, if_pos (by rw [List.length_map]; exact h1)]) (ev_some _)
    · have hlt : x.toNat < (plAll l).length := by omega
      have e : atSpec l x = ((plAll l)[x.toNat] : Int) := by unfold atSpec; rw [if_pos (by omega), List.getElem?_eq_getElem hlt]; rfl
      rw [e]
      refine Ev.congr (f := fun _ => some (rd ((plAll l).map Int.ofNat) x)) (fun k => ?_) (ev_eq (ev_some _) ?_)
      · rw [if_neg h0, if_neg (by rw [List.length_map]; exact h1), if_pos (by omega), if_pos (by rw [List.length_map]; omega)]
      · obtain ⟨n, rfl⟩ : ∃ n : Nat, x = (n : Int) := ⟨x.toNat, by omega⟩
        rw [rdI _ n (by rw [List.length_map]; exact hlt)]
        simp

/-! Cut -/
def cutGo : List S24 → Int → Int → Int → List S24
  | [], _, _, _ => []
  | x :: r, first, fr, tt => (if max fr first < min tt (first + x.f1) then [⟨x.f0 + max fr first - first, min tt (first + x.f1) - max fr first⟩] else []) ++ cutGo r (first + x.f1) fr tt
def cutSpec (l : List S24) (f m : Int) : List S24 := if m < 1 ∨ f < 0 ∨ f > ((plAll l).length : Int) - m then [] else cutGo l 0 f (f + m)

theorem mx_max (a b : Int) : mx a b = max a b := by unfold mx; omega
theorem mn_min (a b : Int) : mn a b = min a b := by unfold mn; omega

theorem cut_l0 (l : List S24) (hf : plFits l) (f m : Int) (hf0 : 0 ≤ f) (hf1 : f ≤ 4398046511104) (hm0 : 1 ≤ m) (hm1 : m ≤ 4398046511104) : ∀ (d a : Nat) (n : Int) (out : List S24), l.length - a = d → a ≤ l.length → 0 ≤ n → n ≤ (a : Int) * 1048576 → out.length ≤ a →
    Ev (fun k => piece_Cut.l0 k out n l (l.length : Int) (a : Int) f m) (out ++ cutGo (l.drop a) n f (f + m)) := by
  intro d
  have hl := hf.2
  induction d with
  | zero =>
    intro a n out hd ha h0 h1 ho
    obtain rfl : a = l.length := by omega
    refine ev_next (f := fun _ => some out) (fun k => by simp only [piece_Cut.l0]; rw [if_neg (by omega)]) (ev_eq (ev_some _) ?_)
    simp [cutGo]
  | succ d ih =>
    intro a n out hd ha h0 h1 ho
    have hlt : a < l.length := by omega
    obtain ⟨b0, b1, a1, a2⟩ := fitsAt hf a hlt
    have hsp := List.drop_eq_getElem_cons hlt
    rw [hsp, cutGo]
    by_cases hc : max f n < min (f + m) (n + l[a].f1)
    · rw [if_pos hc]
      refine ev_next (f := fun k => piece_Cut.l0 k (out ++ [⟨l[a].f0 + max f n - n, min (f + m) (n + l[a].f1) - max f n⟩]) (n + l[a].f1) l (l.length : Int) ((a + 1 : Nat) : Int) f m) (fun k => ?_) (ev_eq (ih (a + 1) (n + l[a].f1) (out ++ [⟨l[a].f0 + max f n - n, min (f + m) (n + l[a].f1) - max f n⟩]) (by omega) (by omega) (by omega) (by omega) (by rw [List.length_append, List.length_singleton]; omega)) ?_)
      · simp only [piece_Cut.l0, mx_max, mn_min]
        rw [if_pos (by omega), if_pos (by omega), if_pos (by omega), rdS l a hlt, w64 (x := f + m) (by omega), w64 (x := n + l[a].f1) (by omega), if_pos hc, if_pos (by omega), w64 (x := l[a].f0 + max f n) (by omega), w64 (x := l[a].f0 + max f n - n) (by omega), w64 (x := min (f + m) (n + l[a].f1) - max f n) (by omega), w64 (x := (a : Int) + 1) (by omega)]
        rfl
      · rw [List.append_assoc]
    · rw [if_neg hc]
      refine ev_next (f := fun k => piece_Cut.l0 k out (n + l[a].f1) l (l.length : Int) ((a + 1 : Nat) : Int) f m) (fun k => ?_) (ev_eq (ih (a + 1) (n + l[a].f1) out (by omega) (by omega) (by omega) (by omega) (by omega)) ?_)
      · simp only [piece_Cut.l0, mx_max, mn_min]
        rw [if_pos (by omega), if_pos (by omega), if_pos (by omega), rdS l a hlt, w64 (x := f + m) (by omega), w64 (x := n + l[a].f1) (by omega), if_neg hc, w64 (x := (a : Int) + 1) (by omega)]
        rfl
      · rw [List.nil_append]
theorem plAll_total_le (l : List S24) (hf : plFits l) : (plAll l).length ≤ 1099511627776 := by
  have h1 := plAll_len_le l (fun s hs => (hf.1 s hs).2.2.2)
  have h2 := hf.2
  omega
theorem cut_ev (l : List S24) (hf : plFits l) (f m : Int) (hf0 : -4398046511104 ≤ f) (hf1 : f ≤ 4398046511104) (hm0 : -4398046511104 ≤ m) (hm1 : m ≤ 4398046511104) : Ev (fun k => piece_Cut.f k l f m) (cutSpec l f m) := by
  have ht := plAll_total_le l hf
  unfold cutSpec
  have hstop : Ev (fun k => piece_Cut.j0 k l true f m) [] := ev_next (f := fun _ => some []) (fun k => by simp only [piece_Cut.j0]; rw [if_pos (by trivial)]) (ev_some _)
  by_cases h1 : m < 1
  · rw [if_pos (.inl h1)]
    exact Ev.congr (f := fun k => piece_Cut.j0 k l true f m) (fun k => by simp only [piece_Cut.f]; rw [if_pos h1]) hstop
  · by_cases h2 : f < 0
    · rw [if_pos (.inr (.inl h2))]
      exact Ev.congr (f := fun k => piece_Cut.j0 k l true f m) (fun k => by simp only [piece_Cut.f]; rw [if_neg h1, if_pos h2]) hstop
    · refine Ev.congr (f := fun k => (piece_Total.f k l).bind fun t108 => piece_Cut.j0 k l (decide (f > wrap64 (t108 - m))) f m) (fun k => by simp only [piece_Cut.f]; rw [if_neg h1, if_neg h2]) (Ev.bind (total_ev l hf) ?_)
      rw [w64 (by omega)]
      by_cases h3 : f > ((plAll l).length : Int) - m
      · rw [if_pos (.inr (.inr h3)), decide_eq_true h3]; exact hstop
      · rw [if_neg (by omega), decide_eq_false h3]
        refine ev_next (f := fun k => piece_Cut.l0 k [] 0 l (l.length : Int) ((0 : Nat) : Int) f m) (fun k => by simp only [piece_Cut.j0]; rw [if_neg (by simp)]; rfl) ?_
        have h := cut_l0 l hf f m (by omega) hf1 (by omega) hm1 l.length 0 0 [] (by omega) (by omega) (by omega) (by omega) (by simp)
        simpa using h

/-! the reference's Cut: word by word -/
def seg (x : S24) (n f b : Int) (j : Nat) : List S24 := if max f n < min b (n + j) then [⟨x.f0 + max f n - n, min b (n + j) - max f n⟩] else []
def opn (n f b : Int) (j : Nat) : Bool := decide (0 < j ∧ f ≤ n + j - 1 ∧ n + j - 1 < b)
theorem refCut_l1 (l : List S24) (hf : plFits l) (f m : Int) (hf0 : 0 ≤ f) (hf1 : f ≤ 4398046511104) (hm0 : 1 ≤ m) (hm1 : m ≤ 4398046511104) (i : Nat) (hi : i < l.length) (n : Int) (hn0 : 0 ≤ n) (hn1 : n ≤ (i : Int) * 1048576) (B r : List S24) (hB : B.length ≤ i) :
    ∀ (d j : Nat), l[i].f1.toNat - j = d → j ≤ l[i].f1.toNat →
      Ev (fun k => lockfastref14_Cut.l0 k l (B ++ seg l[i] n f (f + m) l[i].f1.toNat) (n + l[i].f1) ((i + 1 : Nat) : Int) f m) r →
      Ev (fun k => lockfastref14_Cut.l1 k l (B ++ seg l[i] n f (f + m) j) (n + j) (i : Int) (opn n f (f + m) j) (j : Int) f m) r := by
  intro d
  obtain ⟨b0, b1, a1, a2⟩ := fitsAt hf i hi
  have hl := hf.2
  induction d with
  | zero =>
    intro j hd hj h
    have hj' : (j : Int) = l[i].f1 := by omega
    have hj2 : l[i].f1.toNat = j := by omega
    refine ev_next (f := fun k => lockfastref14_Cut.l0 k l (B ++ seg l[i] n f (f + m) j) (n + j) ((i + 1 : Nat) : Int) f m) (fun k => ?_) ?_
    · simp only [lockfastref14_Cut.l1]
      rw [if_pos (by omega), if_pos (by omega), rdS l i hi, if_neg (by omega), w64 (by omega)]
      rfl
    · rw [hj2, ← hj'] at h; exact h
  | succ d ih =>
    intro j hd hj h
    have hlt : (j : Int) < l[i].f1 := by omega
    have hnext := ih (j + 1) (by omega) (by omega) h
    -- the word: in, or not
    refine ev_next (f := fun k => lockfastref14_Cut.j3 k l (B ++ seg l[i] n f (f + m) j) (n + j) (i : Int) (opn n f (f + m) j) (j : Int) (decide (f ≤ n + j ∧ n + j < f + m)) f m) (fun k => ?_) ?_
    · simp only [lockfastref14_Cut.l1]
      rw [if_pos (by omega), if_pos (by omega), rdS l i hi, if_pos hlt, w64 (x := f + m) (by omega)]
      by_cases h1 : n + (j : Int) ≥ f
      · rw [if_pos h1]; congr 1; simp; omega
      · rw [if_neg h1]; congr 1; simp; omega
    · by_cases hin : f ≤ n + j ∧ n + j < f + m
      · rw [decide_eq_true hin]
        have hopn : opn n f (f + m) (j + 1) = true := by simp only [opn, decide_eq_true_eq]; omega
        refine ev_next (f := fun k => lockfastref14_Cut.j4 k l (B ++ seg l[i] n f (f + m) j) (n + j) (i : Int) (opn n f (f + m) j) (j : Int) true (opn n f (f + m) j) f m) (fun k => by simp only [lockfastref14_Cut.j3]; rw [if_pos (by trivial)]) ?_
        by_cases ho : opn n f (f + m) j = true
        · have ho' : 0 < j ∧ f ≤ n + j - 1 ∧ n + j - 1 < f + m := by simpa only [opn, decide_eq_true_eq] using ho
          have hs : seg l[i] n f (f + m) j = [⟨l[i].f0 + max f n - n, n + j - max f n⟩] := by
            unfold seg; rw [if_pos (by omega), show min (f + m) (n + (j : Int)) = n + j by omega]
          have hs2 : seg l[i] n f (f + m) (j + 1) = [⟨l[i].f0 + max f n - n, n + j + 1 - max f n⟩] := by
            unfold seg; rw [if_pos (by omega), show min (f + m) (n + ((j + 1 : Nat) : Int)) = n + j + 1 by omega]
          rw [ho, hs]
          rw [hs2, hopn] at hnext
          refine ev_next (f := fun k => lockfastref14_Cut.l1 k l (B ++ [⟨l[i].f0 + max f n - n, n + j + 1 - max f n⟩]) (n + ((j + 1 : Nat) : Int)) (i : Int) true ((j + 1 : Nat) : Int) f m) (fun k => ?_) hnext
          have hlen : ((B ++ [(⟨l[i].f0 + max f n - n, n + j - max f n⟩ : S24)]).length : Int) = B.length + 1 := by simp
          have hrd : rd_T24 (B ++ [(⟨l[i].f0 + max f n - n, n + j - max f n⟩ : S24)]) (B.length : Int) = ⟨l[i].f0 + max f n - n, n + j - max f n⟩ := by
            rw [rdS _ B.length (by simp)]; simp
          simp only [lockfastref14_Cut.j4]
          rw [if_pos (by trivial), hlen, w64 (x := (B.length : Int) + 1 - 1) (by omega), show (B.length : Int) + 1 - 1 = B.length by omega, if_pos (by omega), if_pos (by omega), hrd]
          simp only [Option.bind_some]
          rw [if_pos (by trivial), if_pos (by trivial), w64 (x := n + (j : Int) - max f n + 1) (by omega), w64 (x := n + (j : Int) + 1) (by omega), w64 (x := (j : Int) + 1) (by omega)]
          simp only [Int.toNat_natCast]
          rw [List.set_append_right _ _ (by omega), Nat.sub_self, List.set_cons_zero, show n + (j : Int) - max f n + 1 = n + j + 1 - max f n by omega, show n + (j : Int) + 1 = n + ((j + 1 : Nat) : Int) by omega]
          rfl
        · have ho1 : opn n f (f + m) j = false := by simpa using ho
          have ho' : ¬ (0 < j ∧ f ≤ n + j - 1 ∧ n + j - 1 < f + m) := by simpa only [opn, decide_eq_true_eq] using ho
          have hmx : max f n = n + j := by omega
          have hs : seg l[i] n f (f + m) j = [] := by unfold seg; rw [if_neg (by omega)]
          have hs2 : seg l[i] n f (f + m) (j + 1) = [⟨l[i].f0 + j, 1⟩] := by
            unfold seg; rw [if_pos (by omega), hmx, show min (f + m) (n + ((j + 1 : Nat) : Int)) - (n + j) = 1 by omega, show l[i].f0 + (n + (j : Int)) - n = l[i].f0 + j by omega]
          rw [ho1, hs, List.append_nil]
          rw [hs2, hopn] at hnext
          refine ev_next (f := fun k => lockfastref14_Cut.l1 k l (B ++ [⟨l[i].f0 + j, 1⟩]) (n + ((j + 1 : Nat) : Int)) (i : Int) true ((j + 1 : Nat) : Int) f m) (fun k => ?_) hnext
          simp only [lockfastref14_Cut.j4]
          rw [if_neg (by simp), if_pos (by trivial), if_neg (by simp), if_pos (by omega), if_pos (by omega), if_pos (by omega), rdS l i hi, w64 (x := l[i].f0 + (j : Int)) (by omega), w64 (x := n + (j : Int) + 1) (by omega), w64 (x := (j : Int) + 1) (by omega), show n + (j : Int) + 1 = n + ((j + 1 : Nat) : Int) by omega]
          rfl
      · rw [decide_eq_false hin]
        have hopn : opn n f (f + m) (j + 1) = false := by simp only [opn, decide_eq_false_iff_not]; omega
        have hs2 : seg l[i] n f (f + m) (j + 1) = seg l[i] n f (f + m) j := by
          unfold seg
          by_cases hb : n + (j : Int) < f
          · rw [if_neg (by omega), if_neg (by omega)]
          · have e1 : min (f + m) (n + ((j + 1 : Nat) : Int)) = f + m := by omega
            have e2 : min (f + m) (n + (j : Int)) = f + m := by omega
            rw [e1, e2]
        rw [hs2, hopn] at hnext
        refine ev_next (f := fun k => lockfastref14_Cut.j4 k l (B ++ seg l[i] n f (f + m) j) (n + j) (i : Int) (opn n f (f + m) j) (j : Int) false false f m) (fun k => by simp only [lockfastref14_Cut.j3]; rw [if_neg (by simp)]) ?_
        refine ev_next (f := fun k => lockfastref14_Cut.l1 k l (B ++ seg l[i] n f (f + m) j) (n + ((j + 1 : Nat) : Int)) (i : Int) false ((j + 1 : Nat) : Int) f m) (fun k => ?_) hnext
        simp only [lockfastref14_Cut.j4]
        rw [if_neg (by simp), if_neg (by simp), w64 (x := n + (j : Int) + 1) (by omega), w64 (x := (j : Int) + 1) (by omega), show n + (j : Int) + 1 = n + ((j + 1 : Nat) : Int) by omega]
        rfl
theorem refCut_l0 (l : List S24) (hf : plFits l) (f m : Int) (hf0 : 0 ≤ f) (hf1 : f ≤ 4398046511104) (hm0 : 1 ≤ m) (hm1 : m ≤ 4398046511104) : ∀ (d a : Nat) (n : Int) (out : List S24), l.length - a = d → a ≤ l.length → 0 ≤ n → n ≤ (a : Int) * 1048576 → out.length ≤ a →
    Ev (fun k => lockfastref14_Cut.l0 k l out n (a : Int) f m) (out ++ cutGo (l.drop a) n f (f + m)) := by
  intro d
  have hl := hf.2
  induction d with
  | zero =>
    intro a n out hd ha h0 h1 ho
    obtain rfl : a = l.length := by omega
    refine ev_next (f := fun _ => some out) (fun k => by simp only [lockfastref14_Cut.l0]; rw [if_neg (by omega)]) (ev_eq (ev_some _) ?_)
    simp [cutGo]
  | succ d ih =>
    intro a n out hd ha h0 h1 ho
    have hlt : a < l.length := by omega
    obtain ⟨b0, b1, a1, a2⟩ := fitsAt hf a hlt
    have hsp := List.drop_eq_getElem_cons hlt
    have hsl : (seg l[a] n f (f + m) l[a].f1.toNat).length ≤ 1 := by unfold seg; split <;> simp
    refine ev_next (f := fun k => lockfastref14_Cut.l1 k l (out ++ seg l[a] n f (f + m) 0) (n + ((0 : Nat) : Int)) (a : Int) (opn n f (f + m) 0) ((0 : Nat) : Int) f m) (fun k => ?_) ?_
    · simp only [lockfastref14_Cut.l0]
      have e1 : seg l[a] n f (f + m) 0 = [] := by unfold seg; rw [if_neg (by omega)]
      have e2 : opn n f (f + m) 0 = false := by simp [opn]
      rw [if_pos (by omega), e1, e2, List.append_nil]
      simp
    · refine refCut_l1 l hf f m hf0 hf1 hm0 hm1 a hlt n h0 h1 out _ ho l[a].f1.toNat 0 (by omega) (by omega) ?_
      refine ev_eq (ih (a + 1) (n + l[a].f1) (out ++ seg l[a] n f (f + m) l[a].f1.toNat) (by omega) (by omega) (by omega) (by omega) (by rw [List.length_append]; omega)) ?_
      rw [hsp, cutGo, List.append_assoc]
      congr 2
      unfold seg
      rw [show ((l[a].f1.toNat : Nat) : Int) = l[a].f1 by omega]
theorem refCut_ev (l : List S24) (hf : plFits l) (f m : Int) (hf0 : -4398046511104 ≤ f) (hf1 : f ≤ 4398046511104) (hm0 : -4398046511104 ≤ m) (hm1 : m ≤ 4398046511104) : Ev (fun k => lockfastref14_Cut.f k l f m) (cutSpec l f m) := by
  have ht := plAll_total_le l hf
  unfold cutSpec lockfastref14_Cut.f
  refine Ev.bind (places_ev l hf) ?_
  rw [List.length_map]
  have hstop : Ev (fun k => lockfastref14_Cut.j0 k l true f m) [] := ev_next (f := fun _ => some []) (fun k => by simp only [lockfastref14_Cut.j0]; rw [if_pos (by trivial)]) (ev_some _)
  by_cases h1 : m < 1
  · rw [if_pos (.inl h1)]
    exact Ev.congr (f := fun k => lockfastref14_Cut.j0 k l true f m) (fun k => by rw [if_pos h1]) hstop
  · by_cases h2 : f < 0
    · rw [if_pos (.inr (.inl h2))]
      exact Ev.congr (f := fun k => lockfastref14_Cut.j0 k l true f m) (fun k => by rw [if_neg h1, if_pos h2]) hstop
    · by_cases h3 : f > ((plAll l).length : Int)
      · rw [if_pos (.inr (.inr (by omega)))]
        exact Ev.congr (f := fun k => lockfastref14_Cut.j0 k l true f m) (fun k => by rw [if_neg h1, if_neg h2, if_pos h3]) hstop
      · refine Ev.congr (f := fun k => lockfastref14_Cut.j0 k l (decide (m > ((plAll l).length : Int) - f)) f m) (fun k => by rw [if_neg h1, if_neg h2, if_neg h3, w64 (by omega)]) ?_
        by_cases h4 : m > ((plAll l).length : Int) - f
        · rw [if_pos (.inr (.inr (by omega))), decide_eq_true h4]; exact hstop
        · rw [if_neg (by omega), decide_eq_false h4]
          refine ev_next (f := fun k => lockfastref14_Cut.l0 k l [] 0 ((0 : Nat) : Int) f m) (fun k => by simp only [lockfastref14_Cut.j0]; rw [if_neg (by simp)]; rfl) ?_
          have h := refCut_l0 l hf f m (by omega) hf1 (by omega) hm1 l.length 0 0 [] (by omega) (by omega) (by omega) (by omega) (by simp)
          simpa using h
theorem cutGo_length (l : List S24) : ∀ (n f b : Int), (cutGo l n f b).length ≤ l.length := by
  induction l with
  | nil => intro n f b; simp [cutGo]
  | cons x r ih =>
    intro n f b
    have h := ih (n + x.f1) f b
    rw [cutGo, List.length_append, List.length_cons]
    split
    · rw [List.length_singleton]; omega
    · rw [List.length_nil]; omega
theorem cutSpec_length (l : List S24) (f m : Int) : (cutSpec l f m).length ≤ l.length := by
  unfold cutSpec
  split
  · simp
  · exact cutGo_length l _ _ _
end Go.Proofs.Ytccnoemcpmdeaaa.Pure
