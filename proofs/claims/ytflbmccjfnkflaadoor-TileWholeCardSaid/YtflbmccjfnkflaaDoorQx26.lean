-- Written by lfprint.py of this session's own, by way of the kit's print.py; with hand-made contracts.
import Derived.Test.YtflbmccjfnkflaaDoorStable
import Derived.Shelf.SlSortCmp.Kit1
import Derived.Sort.WalkA
import Derived.Sort.WalkB2
import Derived.Sort.WalkB12
import Derived.Deep.LoopGhost
import Derived.KernelRfl
import Derived.Lib.Hide
import Derived.WalkKit
import Derived.Outline
import Derived.Test.YtflbmccjfnkflaaDoorQx0
import Derived.Test.YtflbmccjfnkflaaDoorQx22
import Derived.Test.YtflbmccjfnkflaaDoorQx23
import Derived.Test.YtflbmccjfnkflaaDoorQx25
namespace Go.Proofs.YtflbmccjfnkflaaDoor.Q
open Go.RowKit Go.Proofs.YtflbmccjfnkflaaDoorW.PrintWords Go.Proofs.YtflbmccjfnkflaaDoorW.PrintLast Go.Proofs.YtflbmccjfnkflaaDoorW.PrintMore
attribute [local go_sem] max2_int min2_int max_two min_two max_three min_three max_four min_four   -- for this text's walks alone
set_option linter.unusedVariables false
set_option linter.unusedSimpArgs false

open Go.Shelf Go.RowKit Go.Lib Go.Sort Go.Proofs.YtflbmccjfnkflaaDoor.StableSort
set_option linter.unusedVariables false
set_option maxHeartbeats 32000000 in
set_option maxRecDepth 1000000 in
theorem st_sym {α : Type} [Inhabited α] (enc : α → Value) (cf : α → α → Int) (g : Nat) (cb : Array Value) (blk off cap : Nat) (d0 : Array α) (w0 : World)
    (eg : ∀ args w, (callFunc g args).run Tryd.prog w = .ok (.enter g args) w) (hcmp : CmpLays1 Tryd.prog g cb enc cf blk off d0.size w0) (R : Row1 enc w0 blk off d0) (hsz : d0.size < 2305843009213693952) : ∀ (f a m b : Nat) (d : Array α) (w : World), b - a ≤ f → a < m → m < b → b ≤ d.size → d0.size = d.size → SW enc w0 blk off d w →
    Calls Tryd.prog 112 #[.slice (some ⟨blk, off, none⟩) d.size cap, .int .i64 a, .int .i64 m, .int .i64 b, .func (.func g) #[] cb] w fun e w' => e = .returned (.tuple #[]) ∧ SW enc w0 blk off (symM (ltOf cf) f a m b d) w' := by
  intro f
  induction f with
  | zero => intro a m b d w h h1 h2; omega
  | succ f ih =>
    intro a m b d w hf ham hmb hb hs S
    by_cases c1 : m - a = 1
    · refine (st_sym1 enc cf g cb blk off cap a m b d0 d w0 w eg hcmp R hs S (by omega) hmb hb (by omega)).mono ?_
      rintro e w' ⟨rfl, h⟩
      exact ⟨rfl, SW.re h (by rw [symM, if_pos c1])⟩
    · by_cases c2 : b - m = 1
      · refine (st_sym2 enc cf g cb blk off cap a m b d0 d w0 w eg hcmp R hs S ham (by omega) (by omega) hb (by omega)).mono ?_
        rintro e w' ⟨rfl, h⟩
        exact ⟨rfl, SW.re h (by rw [symM, if_neg c1, if_pos c2])⟩
      · obtain ⟨mid, hmid⟩ : ∃ q, (a + b) / 2 = q := ⟨_, rfl⟩
        have hm1 : a + b = 2 * mid ∨ a + b = 2 * mid + 1 := by omega
        have hmz : ((a : Int) + (b : Int)) / 2 = (mid : Int) := by omega
        have h1 : ((m : Int) - (a : Int) == 1) = false := by simp; omega
        have h2 : ((b : Int) - (m : Int) == 1) = false := by simp; omega
        have mixed : Tryd.prog.follows .mixedOrders = true := by kernel_rfl
        have hcl0 := R.hO.cells
        simp only [Value.cells] at hcl0
        have hst := R.hO.store Tryd.prog
        -- the place looked for, its bounds
        obtain ⟨lo, hi, hlo, hhi, hst0⟩ : ∃ lo hi : Nat, (if m > mid then mid + m - b else a) = lo ∧ (if m > mid then mid else m) = hi ∧ symStart (ltOf cf) a m b d = bs (fun c => !ltOf cf d[mid + m - 1 - c]! d[c]!) lo hi := by
          refine ⟨_, _, rfl, rfl, ?_⟩
          unfold symStart
          rw [hmid]
          split <;> rfl
        have hlo1 : a ≤ lo ∧ lo ≤ hi ∧ hi ≤ m ∧ hi ≤ mid ∧ mid + m - b ≤ lo := by
          by_cases hgt : m > mid
          · rw [if_pos hgt] at hlo hhi; omega
          · rw [if_neg hgt] at hlo hhi; omega
        have hbr := bs_range (fun c => !ltOf cf d[mid + m - 1 - c]! d[c]!) _ lo hi (Nat.le_refl _) hlo1.2.1
        rw [← hst0] at hbr
        obtain ⟨s, hs0⟩ : ∃ s, symStart (ltOf cf) a m b d = s := ⟨_, rfl⟩
        rw [hs0] at hst0 hbr
        have hrec := fun d1 d2 e1 e2 => symM_rec (ltOf cf) f a m b d c1 c2 mid s hmid hs0 d1 d2 e1 e2
        have HREC := Lib.hid hrec
        have HST := Lib.hid hst0
        have HLO := Lib.hid hlo
        have HHI := Lib.hid hhi
        have HMZ := Lib.hid hmz
        have HC : Aside _ := hcmp
        have S0 : Aside (SW enc w0 blk off d w) := S
        have IH := Lib.hid ih
        clear S hcmp hmz hrec hst0 hs0 hmid hlo hhi ih
        obtain ⟨p, hp⟩ : ∃ p : Nat, p = mid + m - 1 := ⟨_, rfl⟩
        have eP : (mid : Int) + (m : Int) - 1 = (p : Int) := by omega
        clear hp
        by_cases hgt : m > mid
        · have hgd : ((a : Int) + (b : Int)) / 2 < (m : Int) := by omega
          go_enter Tryd.func112, Tryd.ntmps112
          go_wp2_with fail
          rw [HMZ.out]
          have hgz : (mid : Int) < (m : Int) := by omega
          have eL : (mid : Int) + (m : Int) - (b : Int) = (lo : Int) := by have := HLO.out; rw [if_pos hgt] at this; omega
          rw [eL]
          have EL := Lib.hid eL
          clear eL
          rw [eP]
          have EP := Lib.hid eP
          clear eP
          go_loopg [20, 21] hi (fun g1 vi vj wr => ∃ (i j : Nat), vi = .int .i64 i ∧ vj = .int .i64 j ∧ lo ≤ i ∧ i ≤ j ∧ j ≤ hi ∧ j - i ≤ g1 ∧ Aside (SW enc w0 blk off d wr) ∧ Hid (bs (fun c => !ltOf cf d[mid + m - 1 - c]! d[c]!) i j = bs (fun c => !ltOf cf d[mid + m - 1 - c]! d[c]!) lo hi))
          case atStart => exact ⟨lo, hi, by rfl, by have := HHI.out; rw [if_pos hgt] at this; rw [this], by omega, by omega, by omega, by omega, S0, rfl⟩
          case round =>
            clear S0
            obtain ⟨i, j, rfl, rfl, hli, hij, hjh, hg1, S1, HO⟩ := hrel
            by_cases hlt : i < j
            · have hltz : (i : Int) < (j : Int) := by omega
              go_wp2_with fail
              obtain ⟨h, hh⟩ : ∃ h, h = (i + j) / 2 := ⟨_, rfl⟩
              have eh : ((i : Int) + (j : Int)) / 2 = (h : Int) := by omega
              rw [eh]
              have hib : i ≤ h ∧ h < j := by omega
              have HH := Lib.hid hh
              clear hh eh
              obtain ⟨q, hq⟩ : ∃ q : Nat, mid + m - 1 - h = q := ⟨_, rfl⟩
              have pz : mid + m - 1 = p := by have := EP.out; omega
              have b1 : (h : Int) < (d.size : Int) := by omega
              have hpq : (p : Int) - (h : Int) = (q : Int) := by omega
              have hwq : IntKind.i64.wrap (q : Int) = (q : Int) := by rw [IntKind.wrap_i64]; omega
              have q2 : (q : Int) < (d.size : Int) := by omega
              have hqs : q < d.size := by omega
              obtain ⟨x, hx⟩ : ∃ x, x = d[q]! := ⟨_, rfl⟩
              obtain ⟨y, hy⟩ : ∃ x, x = d[h]! := ⟨_, rfl⟩
              have l1 := S1.out.cl R (by omega) q hqs
              have l2 := S1.out.cl R (by omega) h (by omega)
              rw [← hx] at l1
              rw [← hy] at l2
              have hc := S1.out.cmp HC.out (by omega) x y
              have HQ := Lib.hid hq
              have PZ := Lib.hid pz
              clear hq pz
              cases hlv : (ltOf cf) d[q]! d[h]! with
              | false =>
                have hv : ¬ cf x y < 0 := by rw [hx, hy]; exact of_decide_eq_false hlv
                have hd : decide (cf x y < 0) = false := decide_eq_false hv
                have HO2 : Hid (bs (fun c => !ltOf cf d[mid + m - 1 - c]! d[c]!) (h + 1) j = bs (fun c => !ltOf cf d[mid + m - 1 - c]! d[c]!) lo hi) := by
                  show _ = _
                  rw [← HO.out, bs_go_yes _ i j hlt (by rw [← HH.out, HQ.out]; simp only [hlv]; rfl), HH.out]
                clear hx hy hlv
                go_quiet_grown (first | (go_at_fn g; refine Calls.grown_of (hc _ _)))
                have S2 : Aside (SW enc w0 blk off d (grow (wr.drewN nq) osq)) := S1.out.grown nq osq
                clear l1 l2 hc S1
                generalize grow (wr.drewN nq) osq = w2 at S2 ⊢
                clear nq osq hpq hwq
                go_wp2_with fail
                go_roundg (j - (h + 1))
                case measure => omega
                case rel => exact ⟨h + 1, j, by go_num, rfl, by omega, by omega, by omega, by omega, S2, HO2⟩
              | true =>
                have hv : cf x y < 0 := by rw [hx, hy]; exact of_decide_eq_true hlv
                have hd : decide (cf x y < 0) = true := decide_eq_true hv
                have HO2 : Hid (bs (fun c => !ltOf cf d[mid + m - 1 - c]! d[c]!) i h = bs (fun c => !ltOf cf d[mid + m - 1 - c]! d[c]!) lo hi) := by
                  show _ = _
                  rw [← HO.out, bs_go_no _ i j hlt (by rw [← HH.out, HQ.out]; simp only [hlv]; rfl), HH.out]
                clear hx hy hlv
                go_quiet_grown (first | (go_at_fn g; refine Calls.grown_of (hc _ _)))
                have S2 : Aside (SW enc w0 blk off d (grow (wr.drewN nq) osq)) := S1.out.grown nq osq
                clear l1 l2 hc S1
                generalize grow (wr.drewN nq) osq = w2 at S2 ⊢
                clear nq osq hpq hwq
                go_wp2_with fail
                go_roundg (h - i)
                case measure => omega
                case rel => exact ⟨i, h, rfl, rfl, by omega, by omega, by omega, by omega, S2, HO2⟩
            · have hltz : ¬ (i : Int) < (j : Int) := by omega
              obtain rfl : i = s := by rw [HST.out, ← HO.out, bs_stop _ _ _ hlt]
              clear HO HST
              obtain ⟨e, he⟩ : ∃ e : Nat, mid + m - i = e := ⟨_, rfl⟩
              have eZ : (mid : Int) + (m : Int) - (i : Int) = (e : Int) := by omega
              have EZ := Lib.hid eZ
              have eLe : (mid : Int) + (m : Int) - (i : Int) ≤ (e : Int) := by omega
              have eGe : (e : Int) ≤ (mid : Int) + (m : Int) - (i : Int) := by omega
              clear eZ
              have hil : (i : Int) ≤ (m : Int) := by omega
              have him : (i : Int) ≤ (mid : Int) := by omega
              have heb : (e : Int) ≤ (b : Int) := by omega
              have hem : (mid : Int) ≤ (e : Int) := by omega
              have hai : (a : Int) ≤ (i : Int) := by omega
              have hrot := fun p m q dk W (hk : dk.size = d.size) S h1 h2 h3 => st_rotate enc (.func (.func g) #[] cb) blk off cap p m q d0 dk w0 W R (by omega) S h1 h2 h3 (by omega)
              have HROT : Aside _ := hrot
              clear hrot
              obtain ⟨d1, hd1⟩ : ∃ d1, d1 = symRot a m b i d := ⟨_, rfl⟩
              have hs1 : d1.size = d.size := by rw [hd1, symRot_size]
              obtain ⟨d2, hd2⟩ : ∃ d2, d2 = if a < i ∧ i < mid then symM (ltOf cf) f a i mid d1 else d1 := ⟨_, rfl⟩
              have hs2 : d2.size = d.size := by
                rw [hd2]; split
                · rw [symM_size, hs1]
                · exact hs1
              have hfin := HREC.out d1 d2 hd1 hd2
              rw [he] at hfin
              have HFIN := Lib.hid hfin
              have HD1 := Lib.hid hd1
              have HD2 := Lib.hid hd2
              have HE := Lib.hid he
              clear hfin hd1 hd2 HREC he
              -- the turn
              have hturn : (i < m ∧ m < e) ∨ ¬ (i < m ∧ m < e) := Classical.em _
              rcases hturn with hc | hc
              · have k1 : (i : Int) < (m : Int) := by omega
                have k2 : (m : Int) < (e : Int) := by omega
                have e1 : rotL m (m - i) (e - m) d = d1 := by rw [HD1.out]; unfold symRot; rw [show (a + b) / 2 = mid by omega, if_pos (by have := HE.out; omega), show e - m = mid - i by have := HE.out; omega]
                have E1 := Lib.hid e1
                clear e1
                go_wp2_with (go_at_call 116; rw [EZ.out]; (with_reducible refine (HROT.out i m e d _ rfl S1.out (by omega) (by omega) (by omega)).mono ?_); rintro e' W1 ⟨rfl, S2⟩; refine Hid.out ?_)
                refine Lib.hid ?_
                have S3 : Aside (SW enc w0 blk off d1 W1) := SW.re S2 E1.out
                clear S2 E1 S1
                have hleft : (a < i ∧ i < mid) ∨ ¬ (a < i ∧ i < mid) := Classical.em _
                rcases hleft with hl | hl
                · have l1 : (a : Int) < (i : Int) := by omega
                  have l2 : (i : Int) < (mid : Int) := by omega
                  first
                    | (exfalso; omega)
                    | (have IL := IH.out a i mid d1 _ (by omega) hl.1 hl.2 (by omega) (by omega) S3.out
                       rw [hs1] at IL
                       have ILH := Lib.hid IL
                       clear IL
                       have e2 : symM (ltOf cf) f a i mid d1 = d2 := by rw [HD2.out, if_pos hl]
                       have E2 := Lib.hid e2
                       clear e2
                       go_wp2_with (go_at_call 112; (try rw [EZ.out]); (with_reducible refine ILH.out.mono ?_); rintro e' W2 ⟨rfl, S6⟩; refine Hid.out ?_)
                       refine Lib.hid ?_
                       have S4 : Aside (SW enc w0 blk off d2 W2) := SW.re S6 E2.out
                       clear S6 S3 E2 ILH
                       have hright : (mid < e ∧ e < b) ∨ ¬ (mid < e ∧ e < b) := Classical.em _
                       rcases hright with hr | hr
                       · have r1 : (mid : Int) < (e : Int) := by omega
                         have r2 : (e : Int) < (b : Int) := by omega
                         first
                           | (exfalso; omega)
                           | (have IR := IH.out mid e b d2 _ (by omega) hr.1 hr.2 (by omega) (by omega) S4.out
                              rw [hs2] at IR
                              have IRH := Lib.hid IR
                              clear IR
                              go_wp2_with (go_at_call 112; (try rw [EZ.out]); (with_reducible refine IRH.out.mono ?_); rintro e' W3 ⟨rfl, S5⟩)
                              go_end0
                              exact ⟨rfl, SW.re S5 (by rw [HFIN.out, if_pos hr])⟩)
                       · rcases Nat.lt_or_ge mid e with r1 | r1
                         · have r1z : (mid : Int) < (e : Int) := by omega
                           have r2 : ¬ (e : Int) < (b : Int) := by omega
                           first
                             | (exfalso; omega)
                             | (go_wp2_with fail
                                go_end0
                                exact ⟨rfl, SW.re S4.out (by rw [HFIN.out, if_neg hr])⟩)
                         · have r1z : ¬ (mid : Int) < (e : Int) := by omega
                           first
                             | (exfalso; omega)
                             | (go_wp2_with fail
                                go_end0
                                exact ⟨rfl, SW.re S4.out (by rw [HFIN.out, if_neg hr])⟩))
                · have e2 : d1 = d2 := by rw [HD2.out, if_neg hl]
                  have S4 : Aside (SW enc w0 blk off d2 _) := SW.re S3.out e2
                  clear S3 e2
                  rcases Nat.lt_or_ge a i with l1 | l1
                  · have l1z : (a : Int) < (i : Int) := by omega
                    have l2 : ¬ (i : Int) < (mid : Int) := by omega
                    have hright : (mid < e ∧ e < b) ∨ ¬ (mid < e ∧ e < b) := Classical.em _
                    rcases hright with hr | hr
                    · have r1 : (mid : Int) < (e : Int) := by omega
                      have r2 : (e : Int) < (b : Int) := by omega
                      first
                        | (exfalso; omega)
                        | (have IR := IH.out mid e b d2 _ (by omega) hr.1 hr.2 (by omega) (by omega) S4.out
                           rw [hs2] at IR
                           have IRH := Lib.hid IR
                           clear IR
                           go_wp2_with (go_at_call 112; (try rw [EZ.out]); (with_reducible refine IRH.out.mono ?_); rintro e' W3 ⟨rfl, S5⟩)
                           go_end0
                           exact ⟨rfl, SW.re S5 (by rw [HFIN.out, if_pos hr])⟩)
                    · rcases Nat.lt_or_ge mid e with r1 | r1
                      · have r1z : (mid : Int) < (e : Int) := by omega
                        have r2 : ¬ (e : Int) < (b : Int) := by omega
                        first
                          | (exfalso; omega)
                          | (go_wp2_with fail
                             go_end0
                             exact ⟨rfl, SW.re S4.out (by rw [HFIN.out, if_neg hr])⟩)
                      · have r1z : ¬ (mid : Int) < (e : Int) := by omega
                        first
                          | (exfalso; omega)
                          | (go_wp2_with fail
                             go_end0
                             exact ⟨rfl, SW.re S4.out (by rw [HFIN.out, if_neg hr])⟩)
                  · have l1z : ¬ (a : Int) < (i : Int) := by omega
                    have hright : (mid < e ∧ e < b) ∨ ¬ (mid < e ∧ e < b) := Classical.em _
                    rcases hright with hr | hr
                    · have r1 : (mid : Int) < (e : Int) := by omega
                      have r2 : (e : Int) < (b : Int) := by omega
                      first
                        | (exfalso; omega)
                        | (have IR := IH.out mid e b d2 _ (by omega) hr.1 hr.2 (by omega) (by omega) S4.out
                           rw [hs2] at IR
                           have IRH := Lib.hid IR
                           clear IR
                           go_wp2_with (go_at_call 112; (try rw [EZ.out]); (with_reducible refine IRH.out.mono ?_); rintro e' W3 ⟨rfl, S5⟩)
                           go_end0
                           exact ⟨rfl, SW.re S5 (by rw [HFIN.out, if_pos hr])⟩)
                    · rcases Nat.lt_or_ge mid e with r1 | r1
                      · have r1z : (mid : Int) < (e : Int) := by omega
                        have r2 : ¬ (e : Int) < (b : Int) := by omega
                        first
                          | (exfalso; omega)
                          | (go_wp2_with fail
                             go_end0
                             exact ⟨rfl, SW.re S4.out (by rw [HFIN.out, if_neg hr])⟩)
                      · have r1z : ¬ (mid : Int) < (e : Int) := by omega
                        first
                          | (exfalso; omega)
                          | (go_wp2_with fail
                             go_end0
                             exact ⟨rfl, SW.re S4.out (by rw [HFIN.out, if_neg hr])⟩)
              · have e1 : d1 = d := by rw [HD1.out]; unfold symRot; rw [show (a + b) / 2 = mid by omega, if_neg (by have := HE.out; omega)]
                have S3 : Aside (SW enc w0 blk off d1 wr) := SW.re S1.out e1.symm
                clear S1 e1
                have kk : ((i : Int) < (m : Int) ∧ (m : Int) < (e : Int)) ∨ ¬ ((i : Int) < (m : Int) ∧ (m : Int) < (e : Int)) := Classical.em _
                rcases Nat.lt_or_ge i m with k1 | k1
                · have k1z : (i : Int) < (m : Int) := by omega
                  have k2 : ¬ (m : Int) < (e : Int) := by omega
                  clear kk
                  have hleft : (a < i ∧ i < mid) ∨ ¬ (a < i ∧ i < mid) := Classical.em _
                  rcases hleft with hl | hl
                  · have l1 : (a : Int) < (i : Int) := by omega
                    have l2 : (i : Int) < (mid : Int) := by omega
                    first
                      | (exfalso; omega)
                      | (have IL := IH.out a i mid d1 _ (by omega) hl.1 hl.2 (by omega) (by omega) S3.out
                         rw [hs1] at IL
                         have ILH := Lib.hid IL
                         clear IL
                         have e2 : symM (ltOf cf) f a i mid d1 = d2 := by rw [HD2.out, if_pos hl]
                         have E2 := Lib.hid e2
                         clear e2
                         go_wp2_with (go_at_call 112; (try rw [EZ.out]); (with_reducible refine ILH.out.mono ?_); rintro e' W2 ⟨rfl, S6⟩; refine Hid.out ?_)
                         refine Lib.hid ?_
                         have S4 : Aside (SW enc w0 blk off d2 W2) := SW.re S6 E2.out
                         clear S6 S3 E2 ILH
                         have hright : (mid < e ∧ e < b) ∨ ¬ (mid < e ∧ e < b) := Classical.em _
                         rcases hright with hr | hr
                         · have r1 : (mid : Int) < (e : Int) := by omega
                           have r2 : (e : Int) < (b : Int) := by omega
                           first
                             | (exfalso; omega)
                             | (have IR := IH.out mid e b d2 _ (by omega) hr.1 hr.2 (by omega) (by omega) S4.out
                                rw [hs2] at IR
                                have IRH := Lib.hid IR
                                clear IR
                                go_wp2_with (go_at_call 112; (try rw [EZ.out]); (with_reducible refine IRH.out.mono ?_); rintro e' W3 ⟨rfl, S5⟩)
                                go_end0
                                exact ⟨rfl, SW.re S5 (by rw [HFIN.out, if_pos hr])⟩)
                         · rcases Nat.lt_or_ge mid e with r1 | r1
                           · have r1z : (mid : Int) < (e : Int) := by omega
                             have r2 : ¬ (e : Int) < (b : Int) := by omega
                             first
                               | (exfalso; omega)
                               | (go_wp2_with fail
                                  go_end0
                                  exact ⟨rfl, SW.re S4.out (by rw [HFIN.out, if_neg hr])⟩)
                           · have r1z : ¬ (mid : Int) < (e : Int) := by omega
                             first
                               | (exfalso; omega)
                               | (go_wp2_with fail
                                  go_end0
                                  exact ⟨rfl, SW.re S4.out (by rw [HFIN.out, if_neg hr])⟩))
                  · have e2 : d1 = d2 := by rw [HD2.out, if_neg hl]
                    have S4 : Aside (SW enc w0 blk off d2 _) := SW.re S3.out e2
                    clear S3 e2
                    rcases Nat.lt_or_ge a i with l1 | l1
                    · have l1z : (a : Int) < (i : Int) := by omega
                      have l2 : ¬ (i : Int) < (mid : Int) := by omega
                      have hright : (mid < e ∧ e < b) ∨ ¬ (mid < e ∧ e < b) := Classical.em _
                      rcases hright with hr | hr
                      · have r1 : (mid : Int) < (e : Int) := by omega
                        have r2 : (e : Int) < (b : Int) := by omega
                        first
                          | (exfalso; omega)
                          | (have IR := IH.out mid e b d2 _ (by omega) hr.1 hr.2 (by omega) (by omega) S4.out
                             rw [hs2] at IR
                             have IRH := Lib.hid IR
                             clear IR
                             go_wp2_with (go_at_call 112; (try rw [EZ.out]); (with_reducible refine IRH.out.mono ?_); rintro e' W3 ⟨rfl, S5⟩)
                             go_end0
                             exact ⟨rfl, SW.re S5 (by rw [HFIN.out, if_pos hr])⟩)
                      · rcases Nat.lt_or_ge mid e with r1 | r1
                        · have r1z : (mid : Int) < (e : Int) := by omega
                          have r2 : ¬ (e : Int) < (b : Int) := by omega
                          first
                            | (exfalso; omega)
                            | (go_wp2_with fail
                               go_end0
                               exact ⟨rfl, SW.re S4.out (by rw [HFIN.out, if_neg hr])⟩)
                        · have r1z : ¬ (mid : Int) < (e : Int) := by omega
                          first
                            | (exfalso; omega)
                            | (go_wp2_with fail
                               go_end0
                               exact ⟨rfl, SW.re S4.out (by rw [HFIN.out, if_neg hr])⟩)
                    · have l1z : ¬ (a : Int) < (i : Int) := by omega
                      have hright : (mid < e ∧ e < b) ∨ ¬ (mid < e ∧ e < b) := Classical.em _
                      rcases hright with hr | hr
                      · have r1 : (mid : Int) < (e : Int) := by omega
                        have r2 : (e : Int) < (b : Int) := by omega
                        first
                          | (exfalso; omega)
                          | (have IR := IH.out mid e b d2 _ (by omega) hr.1 hr.2 (by omega) (by omega) S4.out
                             rw [hs2] at IR
                             have IRH := Lib.hid IR
                             clear IR
                             go_wp2_with (go_at_call 112; (try rw [EZ.out]); (with_reducible refine IRH.out.mono ?_); rintro e' W3 ⟨rfl, S5⟩)
                             go_end0
                             exact ⟨rfl, SW.re S5 (by rw [HFIN.out, if_pos hr])⟩)
                      · rcases Nat.lt_or_ge mid e with r1 | r1
                        · have r1z : (mid : Int) < (e : Int) := by omega
                          have r2 : ¬ (e : Int) < (b : Int) := by omega
                          first
                            | (exfalso; omega)
                            | (go_wp2_with fail
                               go_end0
                               exact ⟨rfl, SW.re S4.out (by rw [HFIN.out, if_neg hr])⟩)
                        · have r1z : ¬ (mid : Int) < (e : Int) := by omega
                          first
                            | (exfalso; omega)
                            | (go_wp2_with fail
                               go_end0
                               exact ⟨rfl, SW.re S4.out (by rw [HFIN.out, if_neg hr])⟩)
                · have k1z : ¬ (i : Int) < (m : Int) := by omega
                  clear kk
                  have hleft : (a < i ∧ i < mid) ∨ ¬ (a < i ∧ i < mid) := Classical.em _
                  rcases hleft with hl | hl
                  · have l1 : (a : Int) < (i : Int) := by omega
                    have l2 : (i : Int) < (mid : Int) := by omega
                    first
                      | (exfalso; omega)
                      | (have IL := IH.out a i mid d1 _ (by omega) hl.1 hl.2 (by omega) (by omega) S3.out
                         rw [hs1] at IL
                         have ILH := Lib.hid IL
                         clear IL
                         have e2 : symM (ltOf cf) f a i mid d1 = d2 := by rw [HD2.out, if_pos hl]
                         have E2 := Lib.hid e2
                         clear e2
                         go_wp2_with (go_at_call 112; (try rw [EZ.out]); (with_reducible refine ILH.out.mono ?_); rintro e' W2 ⟨rfl, S6⟩; refine Hid.out ?_)
                         refine Lib.hid ?_
                         have S4 : Aside (SW enc w0 blk off d2 W2) := SW.re S6 E2.out
                         clear S6 S3 E2 ILH
                         have hright : (mid < e ∧ e < b) ∨ ¬ (mid < e ∧ e < b) := Classical.em _
                         rcases hright with hr | hr
                         · have r1 : (mid : Int) < (e : Int) := by omega
                           have r2 : (e : Int) < (b : Int) := by omega
                           first
                             | (exfalso; omega)
                             | (have IR := IH.out mid e b d2 _ (by omega) hr.1 hr.2 (by omega) (by omega) S4.out
                                rw [hs2] at IR
                                have IRH := Lib.hid IR
                                clear IR
                                go_wp2_with (go_at_call 112; (try rw [EZ.out]); (with_reducible refine IRH.out.mono ?_); rintro e' W3 ⟨rfl, S5⟩)
                                go_end0
                                exact ⟨rfl, SW.re S5 (by rw [HFIN.out, if_pos hr])⟩)
                         · rcases Nat.lt_or_ge mid e with r1 | r1
                           · have r1z : (mid : Int) < (e : Int) := by omega
                             have r2 : ¬ (e : Int) < (b : Int) := by omega
                             first
                               | (exfalso; omega)
                               | (go_wp2_with fail
                                  go_end0
                                  exact ⟨rfl, SW.re S4.out (by rw [HFIN.out, if_neg hr])⟩)
                           · have r1z : ¬ (mid : Int) < (e : Int) := by omega
                             first
                               | (exfalso; omega)
                               | (go_wp2_with fail
                                  go_end0
                                  exact ⟨rfl, SW.re S4.out (by rw [HFIN.out, if_neg hr])⟩))
                  · have e2 : d1 = d2 := by rw [HD2.out, if_neg hl]
                    have S4 : Aside (SW enc w0 blk off d2 _) := SW.re S3.out e2
                    clear S3 e2
                    rcases Nat.lt_or_ge a i with l1 | l1
                    · have l1z : (a : Int) < (i : Int) := by omega
                      have l2 : ¬ (i : Int) < (mid : Int) := by omega
                      have hright : (mid < e ∧ e < b) ∨ ¬ (mid < e ∧ e < b) := Classical.em _
                      rcases hright with hr | hr
                      · have r1 : (mid : Int) < (e : Int) := by omega
                        have r2 : (e : Int) < (b : Int) := by omega
                        first
                          | (exfalso; omega)
                          | (have IR := IH.out mid e b d2 _ (by omega) hr.1 hr.2 (by omega) (by omega) S4.out
                             rw [hs2] at IR
                             have IRH := Lib.hid IR
                             clear IR
                             go_wp2_with (go_at_call 112; (try rw [EZ.out]); (with_reducible refine IRH.out.mono ?_); rintro e' W3 ⟨rfl, S5⟩)
                             go_end0
                             exact ⟨rfl, SW.re S5 (by rw [HFIN.out, if_pos hr])⟩)
                      · rcases Nat.lt_or_ge mid e with r1 | r1
                        · have r1z : (mid : Int) < (e : Int) := by omega
                          have r2 : ¬ (e : Int) < (b : Int) := by omega
                          first
                            | (exfalso; omega)
                            | (go_wp2_with fail
                               go_end0
                               exact ⟨rfl, SW.re S4.out (by rw [HFIN.out, if_neg hr])⟩)
                        · have r1z : ¬ (mid : Int) < (e : Int) := by omega
                          first
                            | (exfalso; omega)
                            | (go_wp2_with fail
                               go_end0
                               exact ⟨rfl, SW.re S4.out (by rw [HFIN.out, if_neg hr])⟩)
                    · have l1z : ¬ (a : Int) < (i : Int) := by omega
                      have hright : (mid < e ∧ e < b) ∨ ¬ (mid < e ∧ e < b) := Classical.em _
                      rcases hright with hr | hr
                      · have r1 : (mid : Int) < (e : Int) := by omega
                        have r2 : (e : Int) < (b : Int) := by omega
                        first
                          | (exfalso; omega)
                          | (have IR := IH.out mid e b d2 _ (by omega) hr.1 hr.2 (by omega) (by omega) S4.out
                             rw [hs2] at IR
                             have IRH := Lib.hid IR
                             clear IR
                             go_wp2_with (go_at_call 112; (try rw [EZ.out]); (with_reducible refine IRH.out.mono ?_); rintro e' W3 ⟨rfl, S5⟩)
                             go_end0
                             exact ⟨rfl, SW.re S5 (by rw [HFIN.out, if_pos hr])⟩)
                      · rcases Nat.lt_or_ge mid e with r1 | r1
                        · have r1z : (mid : Int) < (e : Int) := by omega
                          have r2 : ¬ (e : Int) < (b : Int) := by omega
                          first
                            | (exfalso; omega)
                            | (go_wp2_with fail
                               go_end0
                               exact ⟨rfl, SW.re S4.out (by rw [HFIN.out, if_neg hr])⟩)
                        · have r1z : ¬ (mid : Int) < (e : Int) := by omega
                          first
                            | (exfalso; omega)
                            | (go_wp2_with fail
                               go_end0
                               exact ⟨rfl, SW.re S4.out (by rw [HFIN.out, if_neg hr])⟩)
        · have hgd : ¬ ((a : Int) + (b : Int)) / 2 < (m : Int) := by omega
          go_enter Tryd.func112, Tryd.ntmps112
          go_wp2_with fail
          rw [HMZ.out]
          have hgz : ¬ (mid : Int) < (m : Int) := by omega
          rw [eP]
          have EP := Lib.hid eP
          clear eP
          go_loopg [20, 21] hi (fun g1 vi vj wr => ∃ (i j : Nat), vi = .int .i64 i ∧ vj = .int .i64 j ∧ lo ≤ i ∧ i ≤ j ∧ j ≤ hi ∧ j - i ≤ g1 ∧ Aside (SW enc w0 blk off d wr) ∧ Hid (bs (fun c => !ltOf cf d[mid + m - 1 - c]! d[c]!) i j = bs (fun c => !ltOf cf d[mid + m - 1 - c]! d[c]!) lo hi))
          case atStart => exact ⟨lo, hi, by have := HLO.out; rw [if_neg hgt] at this; rw [this], by have := HHI.out; rw [if_neg hgt] at this; rw [this], by omega, by omega, by omega, by omega, S0, rfl⟩
          case round =>
            clear S0
            obtain ⟨i, j, rfl, rfl, hli, hij, hjh, hg1, S1, HO⟩ := hrel
            by_cases hlt : i < j
            · have hltz : (i : Int) < (j : Int) := by omega
              go_wp2_with fail
              obtain ⟨h, hh⟩ : ∃ h, h = (i + j) / 2 := ⟨_, rfl⟩
              have eh : ((i : Int) + (j : Int)) / 2 = (h : Int) := by omega
              rw [eh]
              have hib : i ≤ h ∧ h < j := by omega
              have HH := Lib.hid hh
              clear hh eh
              obtain ⟨q, hq⟩ : ∃ q : Nat, mid + m - 1 - h = q := ⟨_, rfl⟩
              have pz : mid + m - 1 = p := by have := EP.out; omega
              have b1 : (h : Int) < (d.size : Int) := by omega
              have hpq : (p : Int) - (h : Int) = (q : Int) := by omega
              have hwq : IntKind.i64.wrap (q : Int) = (q : Int) := by rw [IntKind.wrap_i64]; omega
              have q2 : (q : Int) < (d.size : Int) := by omega
              have hqs : q < d.size := by omega
              obtain ⟨x, hx⟩ : ∃ x, x = d[q]! := ⟨_, rfl⟩
              obtain ⟨y, hy⟩ : ∃ x, x = d[h]! := ⟨_, rfl⟩
              have l1 := S1.out.cl R (by omega) q hqs
              have l2 := S1.out.cl R (by omega) h (by omega)
              rw [← hx] at l1
              rw [← hy] at l2
              have hc := S1.out.cmp HC.out (by omega) x y
              have HQ := Lib.hid hq
              have PZ := Lib.hid pz
              clear hq pz
              cases hlv : (ltOf cf) d[q]! d[h]! with
              | false =>
                have hv : ¬ cf x y < 0 := by rw [hx, hy]; exact of_decide_eq_false hlv
                have hd : decide (cf x y < 0) = false := decide_eq_false hv
                have HO2 : Hid (bs (fun c => !ltOf cf d[mid + m - 1 - c]! d[c]!) (h + 1) j = bs (fun c => !ltOf cf d[mid + m - 1 - c]! d[c]!) lo hi) := by
                  show _ = _
                  rw [← HO.out, bs_go_yes _ i j hlt (by rw [← HH.out, HQ.out]; simp only [hlv]; rfl), HH.out]
                clear hx hy hlv
                go_quiet_grown (first | (go_at_fn g; refine Calls.grown_of (hc _ _)))
                have S2 : Aside (SW enc w0 blk off d (grow (wr.drewN nq) osq)) := S1.out.grown nq osq
                clear l1 l2 hc S1
                generalize grow (wr.drewN nq) osq = w2 at S2 ⊢
                clear nq osq hpq hwq
                go_wp2_with fail
                go_roundg (j - (h + 1))
                case measure => omega
                case rel => exact ⟨h + 1, j, by go_num, rfl, by omega, by omega, by omega, by omega, S2, HO2⟩
              | true =>
                have hv : cf x y < 0 := by rw [hx, hy]; exact of_decide_eq_true hlv
                have hd : decide (cf x y < 0) = true := decide_eq_true hv
                have HO2 : Hid (bs (fun c => !ltOf cf d[mid + m - 1 - c]! d[c]!) i h = bs (fun c => !ltOf cf d[mid + m - 1 - c]! d[c]!) lo hi) := by
                  show _ = _
                  rw [← HO.out, bs_go_no _ i j hlt (by rw [← HH.out, HQ.out]; simp only [hlv]; rfl), HH.out]
                clear hx hy hlv
                go_quiet_grown (first | (go_at_fn g; refine Calls.grown_of (hc _ _)))
                have S2 : Aside (SW enc w0 blk off d (grow (wr.drewN nq) osq)) := S1.out.grown nq osq
                clear l1 l2 hc S1
                generalize grow (wr.drewN nq) osq = w2 at S2 ⊢
                clear nq osq hpq hwq
                go_wp2_with fail
                go_roundg (h - i)
                case measure => omega
                case rel => exact ⟨i, h, rfl, rfl, by omega, by omega, by omega, by omega, S2, HO2⟩
            · have hltz : ¬ (i : Int) < (j : Int) := by omega
              obtain rfl : i = s := by rw [HST.out, ← HO.out, bs_stop _ _ _ hlt]
              clear HO HST
              obtain ⟨e, he⟩ : ∃ e : Nat, mid + m - i = e := ⟨_, rfl⟩
              have eZ : (mid : Int) + (m : Int) - (i : Int) = (e : Int) := by omega
              have EZ := Lib.hid eZ
              have eLe : (mid : Int) + (m : Int) - (i : Int) ≤ (e : Int) := by omega
              have eGe : (e : Int) ≤ (mid : Int) + (m : Int) - (i : Int) := by omega
              clear eZ
              have hil : (i : Int) ≤ (m : Int) := by omega
              have him : (i : Int) ≤ (mid : Int) := by omega
              have heb : (e : Int) ≤ (b : Int) := by omega
              have hem : (mid : Int) ≤ (e : Int) := by omega
              have hai : (a : Int) ≤ (i : Int) := by omega
              have hrot := fun p m q dk W (hk : dk.size = d.size) S h1 h2 h3 => st_rotate enc (.func (.func g) #[] cb) blk off cap p m q d0 dk w0 W R (by omega) S h1 h2 h3 (by omega)
              have HROT : Aside _ := hrot
              clear hrot
              obtain ⟨d1, hd1⟩ : ∃ d1, d1 = symRot a m b i d := ⟨_, rfl⟩
              have hs1 : d1.size = d.size := by rw [hd1, symRot_size]
              obtain ⟨d2, hd2⟩ : ∃ d2, d2 = if a < i ∧ i < mid then symM (ltOf cf) f a i mid d1 else d1 := ⟨_, rfl⟩
              have hs2 : d2.size = d.size := by
                rw [hd2]; split
                · rw [symM_size, hs1]
                · exact hs1
              have hfin := HREC.out d1 d2 hd1 hd2
              rw [he] at hfin
              have HFIN := Lib.hid hfin
              have HD1 := Lib.hid hd1
              have HD2 := Lib.hid hd2
              have HE := Lib.hid he
              clear hfin hd1 hd2 HREC he
              -- the turn
              have hturn : (i < m ∧ m < e) ∨ ¬ (i < m ∧ m < e) := Classical.em _
              rcases hturn with hc | hc
              · have k1 : (i : Int) < (m : Int) := by omega
                have k2 : (m : Int) < (e : Int) := by omega
                have e1 : rotL m (m - i) (e - m) d = d1 := by rw [HD1.out]; unfold symRot; rw [show (a + b) / 2 = mid by omega, if_pos (by have := HE.out; omega), show e - m = mid - i by have := HE.out; omega]
                have E1 := Lib.hid e1
                clear e1
                go_wp2_with (go_at_call 116; rw [EZ.out]; (with_reducible refine (HROT.out i m e d _ rfl S1.out (by omega) (by omega) (by omega)).mono ?_); rintro e' W1 ⟨rfl, S2⟩; refine Hid.out ?_)
                refine Lib.hid ?_
                have S3 : Aside (SW enc w0 blk off d1 W1) := SW.re S2 E1.out
                clear S2 E1 S1
                have hleft : (a < i ∧ i < mid) ∨ ¬ (a < i ∧ i < mid) := Classical.em _
                rcases hleft with hl | hl
                · have l1 : (a : Int) < (i : Int) := by omega
                  have l2 : (i : Int) < (mid : Int) := by omega
                  first
                    | (exfalso; omega)
                    | (have IL := IH.out a i mid d1 _ (by omega) hl.1 hl.2 (by omega) (by omega) S3.out
                       rw [hs1] at IL
                       have ILH := Lib.hid IL
                       clear IL
                       have e2 : symM (ltOf cf) f a i mid d1 = d2 := by rw [HD2.out, if_pos hl]
                       have E2 := Lib.hid e2
                       clear e2
                       go_wp2_with (go_at_call 112; (try rw [EZ.out]); (with_reducible refine ILH.out.mono ?_); rintro e' W2 ⟨rfl, S6⟩; refine Hid.out ?_)
                       refine Lib.hid ?_
                       have S4 : Aside (SW enc w0 blk off d2 W2) := SW.re S6 E2.out
                       clear S6 S3 E2 ILH
                       have hright : (mid < e ∧ e < b) ∨ ¬ (mid < e ∧ e < b) := Classical.em _
                       rcases hright with hr | hr
                       · have r1 : (mid : Int) < (e : Int) := by omega
                         have r2 : (e : Int) < (b : Int) := by omega
                         first
                           | (exfalso; omega)
                           | (have IR := IH.out mid e b d2 _ (by omega) hr.1 hr.2 (by omega) (by omega) S4.out
                              rw [hs2] at IR
                              have IRH := Lib.hid IR
                              clear IR
                              go_wp2_with (go_at_call 112; (try rw [EZ.out]); (with_reducible refine IRH.out.mono ?_); rintro e' W3 ⟨rfl, S5⟩)
                              go_end0
                              exact ⟨rfl, SW.re S5 (by rw [HFIN.out, if_pos hr])⟩)
                       · rcases Nat.lt_or_ge mid e with r1 | r1
                         · have r1z : (mid : Int) < (e : Int) := by omega
                           have r2 : ¬ (e : Int) < (b : Int) := by omega
                           first
                             | (exfalso; omega)
                             | (go_wp2_with fail
                                go_end0
                                exact ⟨rfl, SW.re S4.out (by rw [HFIN.out, if_neg hr])⟩)
                         · have r1z : ¬ (mid : Int) < (e : Int) := by omega
                           first
                             | (exfalso; omega)
                             | (go_wp2_with fail
                                go_end0
                                exact ⟨rfl, SW.re S4.out (by rw [HFIN.out, if_neg hr])⟩))
                · have e2 : d1 = d2 := by rw [HD2.out, if_neg hl]
                  have S4 : Aside (SW enc w0 blk off d2 _) := SW.re S3.out e2
                  clear S3 e2
                  rcases Nat.lt_or_ge a i with l1 | l1
                  · have l1z : (a : Int) < (i : Int) := by omega
                    have l2 : ¬ (i : Int) < (mid : Int) := by omega
                    have hright : (mid < e ∧ e < b) ∨ ¬ (mid < e ∧ e < b) := Classical.em _
                    rcases hright with hr | hr
                    · have r1 : (mid : Int) < (e : Int) := by omega
                      have r2 : (e : Int) < (b : Int) := by omega
                      first
                        | (exfalso; omega)
                        | (have IR := IH.out mid e b d2 _ (by omega) hr.1 hr.2 (by omega) (by omega) S4.out
                           rw [hs2] at IR
                           have IRH := Lib.hid IR
                           clear IR
                           go_wp2_with (go_at_call 112; (try rw [EZ.out]); (with_reducible refine IRH.out.mono ?_); rintro e' W3 ⟨rfl, S5⟩)
                           go_end0
                           exact ⟨rfl, SW.re S5 (by rw [HFIN.out, if_pos hr])⟩)
                    · rcases Nat.lt_or_ge mid e with r1 | r1
                      · have r1z : (mid : Int) < (e : Int) := by omega
                        have r2 : ¬ (e : Int) < (b : Int) := by omega
                        first
                          | (exfalso; omega)
                          | (go_wp2_with fail
                             go_end0
                             exact ⟨rfl, SW.re S4.out (by rw [HFIN.out, if_neg hr])⟩)
                      · have r1z : ¬ (mid : Int) < (e : Int) := by omega
                        first
                          | (exfalso; omega)
                          | (go_wp2_with fail
                             go_end0
                             exact ⟨rfl, SW.re S4.out (by rw [HFIN.out, if_neg hr])⟩)
                  · have l1z : ¬ (a : Int) < (i : Int) := by omega
                    have hright : (mid < e ∧ e < b) ∨ ¬ (mid < e ∧ e < b) := Classical.em _
                    rcases hright with hr | hr
                    · have r1 : (mid : Int) < (e : Int) := by omega
                      have r2 : (e : Int) < (b : Int) := by omega
                      first
                        | (exfalso; omega)
                        | (have IR := IH.out mid e b d2 _ (by omega) hr.1 hr.2 (by omega) (by omega) S4.out
                           rw [hs2] at IR
                           have IRH := Lib.hid IR
                           clear IR
                           go_wp2_with (go_at_call 112; (try rw [EZ.out]); (with_reducible refine IRH.out.mono ?_); rintro e' W3 ⟨rfl, S5⟩)
                           go_end0
                           exact ⟨rfl, SW.re S5 (by rw [HFIN.out, if_pos hr])⟩)
                    · rcases Nat.lt_or_ge mid e with r1 | r1
                      · have r1z : (mid : Int) < (e : Int) := by omega
                        have r2 : ¬ (e : Int) < (b : Int) := by omega
                        first
                          | (exfalso; omega)
                          | (go_wp2_with fail
                             go_end0
                             exact ⟨rfl, SW.re S4.out (by rw [HFIN.out, if_neg hr])⟩)
                      · have r1z : ¬ (mid : Int) < (e : Int) := by omega
                        first
                          | (exfalso; omega)
                          | (go_wp2_with fail
                             go_end0
                             exact ⟨rfl, SW.re S4.out (by rw [HFIN.out, if_neg hr])⟩)
              · have e1 : d1 = d := by rw [HD1.out]; unfold symRot; rw [show (a + b) / 2 = mid by omega, if_neg (by have := HE.out; omega)]
                have S3 : Aside (SW enc w0 blk off d1 wr) := SW.re S1.out e1.symm
                clear S1 e1
                have kk : ((i : Int) < (m : Int) ∧ (m : Int) < (e : Int)) ∨ ¬ ((i : Int) < (m : Int) ∧ (m : Int) < (e : Int)) := Classical.em _
                rcases Nat.lt_or_ge i m with k1 | k1
                · have k1z : (i : Int) < (m : Int) := by omega
                  have k2 : ¬ (m : Int) < (e : Int) := by omega
                  clear kk
                  have hleft : (a < i ∧ i < mid) ∨ ¬ (a < i ∧ i < mid) := Classical.em _
                  rcases hleft with hl | hl
                  · have l1 : (a : Int) < (i : Int) := by omega
                    have l2 : (i : Int) < (mid : Int) := by omega
                    first
                      | (exfalso; omega)
                      | (have IL := IH.out a i mid d1 _ (by omega) hl.1 hl.2 (by omega) (by omega) S3.out
                         rw [hs1] at IL
                         have ILH := Lib.hid IL
                         clear IL
                         have e2 : symM (ltOf cf) f a i mid d1 = d2 := by rw [HD2.out, if_pos hl]
                         have E2 := Lib.hid e2
                         clear e2
                         go_wp2_with (go_at_call 112; (try rw [EZ.out]); (with_reducible refine ILH.out.mono ?_); rintro e' W2 ⟨rfl, S6⟩; refine Hid.out ?_)
                         refine Lib.hid ?_
                         have S4 : Aside (SW enc w0 blk off d2 W2) := SW.re S6 E2.out
                         clear S6 S3 E2 ILH
                         have hright : (mid < e ∧ e < b) ∨ ¬ (mid < e ∧ e < b) := Classical.em _
                         rcases hright with hr | hr
                         · have r1 : (mid : Int) < (e : Int) := by omega
                           have r2 : (e : Int) < (b : Int) := by omega
                           first
                             | (exfalso; omega)
                             | (have IR := IH.out mid e b d2 _ (by omega) hr.1 hr.2 (by omega) (by omega) S4.out
                                rw [hs2] at IR
                                have IRH := Lib.hid IR
                                clear IR
                                go_wp2_with (go_at_call 112; (try rw [EZ.out]); (with_reducible refine IRH.out.mono ?_); rintro e' W3 ⟨rfl, S5⟩)
                                go_end0
                                exact ⟨rfl, SW.re S5 (by rw [HFIN.out, if_pos hr])⟩)
                         · rcases Nat.lt_or_ge mid e with r1 | r1
                           · have r1z : (mid : Int) < (e : Int) := by omega
                             have r2 : ¬ (e : Int) < (b : Int) := by omega
                             first
                               | (exfalso; omega)
                               | (go_wp2_with fail
                                  go_end0
                                  exact ⟨rfl, SW.re S4.out (by rw [HFIN.out, if_neg hr])⟩)
                           · have r1z : ¬ (mid : Int) < (e : Int) := by omega
                             first
                               | (exfalso; omega)
                               | (go_wp2_with fail
                                  go_end0
                                  exact ⟨rfl, SW.re S4.out (by rw [HFIN.out, if_neg hr])⟩))
                  · have e2 : d1 = d2 := by rw [HD2.out, if_neg hl]
                    have S4 : Aside (SW enc w0 blk off d2 _) := SW.re S3.out e2
                    clear S3 e2
                    rcases Nat.lt_or_ge a i with l1 | l1
                    · have l1z : (a : Int) < (i : Int) := by omega
                      have l2 : ¬ (i : Int) < (mid : Int) := by omega
                      have hright : (mid < e ∧ e < b) ∨ ¬ (mid < e ∧ e < b) := Classical.em _
                      rcases hright with hr | hr
                      · have r1 : (mid : Int) < (e : Int) := by omega
                        have r2 : (e : Int) < (b : Int) := by omega
                        first
                          | (exfalso; omega)
                          | (have IR := IH.out mid e b d2 _ (by omega) hr.1 hr.2 (by omega) (by omega) S4.out
                             rw [hs2] at IR
                             have IRH := Lib.hid IR
                             clear IR
                             go_wp2_with (go_at_call 112; (try rw [EZ.out]); (with_reducible refine IRH.out.mono ?_); rintro e' W3 ⟨rfl, S5⟩)
                             go_end0
                             exact ⟨rfl, SW.re S5 (by rw [HFIN.out, if_pos hr])⟩)
                      · rcases Nat.lt_or_ge mid e with r1 | r1
                        · have r1z : (mid : Int) < (e : Int) := by omega
                          have r2 : ¬ (e : Int) < (b : Int) := by omega
                          first
                            | (exfalso; omega)
                            | (go_wp2_with fail
                               go_end0
                               exact ⟨rfl, SW.re S4.out (by rw [HFIN.out, if_neg hr])⟩)
                        · have r1z : ¬ (mid : Int) < (e : Int) := by omega
                          first
                            | (exfalso; omega)
                            | (go_wp2_with fail
                               go_end0
                               exact ⟨rfl, SW.re S4.out (by rw [HFIN.out, if_neg hr])⟩)
                    · have l1z : ¬ (a : Int) < (i : Int) := by omega
                      have hright : (mid < e ∧ e < b) ∨ ¬ (mid < e ∧ e < b) := Classical.em _
                      rcases hright with hr | hr
                      · have r1 : (mid : Int) < (e : Int) := by omega
                        have r2 : (e : Int) < (b : Int) := by omega
                        first
                          | (exfalso; omega)
                          | (have IR := IH.out mid e b d2 _ (by omega) hr.1 hr.2 (by omega) (by omega) S4.out
                             rw [hs2] at IR
                             have IRH := Lib.hid IR
                             clear IR
                             go_wp2_with (go_at_call 112; (try rw [EZ.out]); (with_reducible refine IRH.out.mono ?_); rintro e' W3 ⟨rfl, S5⟩)
                             go_end0
                             exact ⟨rfl, SW.re S5 (by rw [HFIN.out, if_pos hr])⟩)
                      · rcases Nat.lt_or_ge mid e with r1 | r1
                        · have r1z : (mid : Int) < (e : Int) := by omega
                          have r2 : ¬ (e : Int) < (b : Int) := by omega
                          first
                            | (exfalso; omega)
                            | (go_wp2_with fail
                               go_end0
                               exact ⟨rfl, SW.re S4.out (by rw [HFIN.out, if_neg hr])⟩)
                        · have r1z : ¬ (mid : Int) < (e : Int) := by omega
                          first
                            | (exfalso; omega)
                            | (go_wp2_with fail
                               go_end0
                               exact ⟨rfl, SW.re S4.out (by rw [HFIN.out, if_neg hr])⟩)
                · have k1z : ¬ (i : Int) < (m : Int) := by omega
                  clear kk
                  have hleft : (a < i ∧ i < mid) ∨ ¬ (a < i ∧ i < mid) := Classical.em _
                  rcases hleft with hl | hl
                  · have l1 : (a : Int) < (i : Int) := by omega
                    have l2 : (i : Int) < (mid : Int) := by omega
                    first
                      | (exfalso; omega)
                      | (have IL := IH.out a i mid d1 _ (by omega) hl.1 hl.2 (by omega) (by omega) S3.out
                         rw [hs1] at IL
                         have ILH := Lib.hid IL
                         clear IL
                         have e2 : symM (ltOf cf) f a i mid d1 = d2 := by rw [HD2.out, if_pos hl]
                         have E2 := Lib.hid e2
                         clear e2
                         go_wp2_with (go_at_call 112; (try rw [EZ.out]); (with_reducible refine ILH.out.mono ?_); rintro e' W2 ⟨rfl, S6⟩; refine Hid.out ?_)
                         refine Lib.hid ?_
                         have S4 : Aside (SW enc w0 blk off d2 W2) := SW.re S6 E2.out
                         clear S6 S3 E2 ILH
                         have hright : (mid < e ∧ e < b) ∨ ¬ (mid < e ∧ e < b) := Classical.em _
                         rcases hright with hr | hr
                         · have r1 : (mid : Int) < (e : Int) := by omega
                           have r2 : (e : Int) < (b : Int) := by omega
                           first
                             | (exfalso; omega)
                             | (have IR := IH.out mid e b d2 _ (by omega) hr.1 hr.2 (by omega) (by omega) S4.out
                                rw [hs2] at IR
                                have IRH := Lib.hid IR
                                clear IR
                                go_wp2_with (go_at_call 112; (try rw [EZ.out]); (with_reducible refine IRH.out.mono ?_); rintro e' W3 ⟨rfl, S5⟩)
                                go_end0
                                exact ⟨rfl, SW.re S5 (by rw [HFIN.out, if_pos hr])⟩)
                         · rcases Nat.lt_or_ge mid e with r1 | r1
                           · have r1z : (mid : Int) < (e : Int) := by omega
                             have r2 : ¬ (e : Int) < (b : Int) := by omega
                             first
                               | (exfalso; omega)
                               | (go_wp2_with fail
                                  go_end0
                                  exact ⟨rfl, SW.re S4.out (by rw [HFIN.out, if_neg hr])⟩)
                           · have r1z : ¬ (mid : Int) < (e : Int) := by omega
                             first
                               | (exfalso; omega)
                               | (go_wp2_with fail
                                  go_end0
                                  exact ⟨rfl, SW.re S4.out (by rw [HFIN.out, if_neg hr])⟩))
                  · have e2 : d1 = d2 := by rw [HD2.out, if_neg hl]
                    have S4 : Aside (SW enc w0 blk off d2 _) := SW.re S3.out e2
                    clear S3 e2
                    rcases Nat.lt_or_ge a i with l1 | l1
                    · have l1z : (a : Int) < (i : Int) := by omega
                      have l2 : ¬ (i : Int) < (mid : Int) := by omega
                      have hright : (mid < e ∧ e < b) ∨ ¬ (mid < e ∧ e < b) := Classical.em _
                      rcases hright with hr | hr
                      · have r1 : (mid : Int) < (e : Int) := by omega
                        have r2 : (e : Int) < (b : Int) := by omega
                        first
                          | (exfalso; omega)
                          | (have IR := IH.out mid e b d2 _ (by omega) hr.1 hr.2 (by omega) (by omega) S4.out
                             rw [hs2] at IR
                             have IRH := Lib.hid IR
                             clear IR
                             go_wp2_with (go_at_call 112; (try rw [EZ.out]); (with_reducible refine IRH.out.mono ?_); rintro e' W3 ⟨rfl, S5⟩)
                             go_end0
                             exact ⟨rfl, SW.re S5 (by rw [HFIN.out, if_pos hr])⟩)
                      · rcases Nat.lt_or_ge mid e with r1 | r1
                        · have r1z : (mid : Int) < (e : Int) := by omega
                          have r2 : ¬ (e : Int) < (b : Int) := by omega
                          first
                            | (exfalso; omega)
                            | (go_wp2_with fail
                               go_end0
                               exact ⟨rfl, SW.re S4.out (by rw [HFIN.out, if_neg hr])⟩)
                        · have r1z : ¬ (mid : Int) < (e : Int) := by omega
                          first
                            | (exfalso; omega)
                            | (go_wp2_with fail
                               go_end0
                               exact ⟨rfl, SW.re S4.out (by rw [HFIN.out, if_neg hr])⟩)
                    · have l1z : ¬ (a : Int) < (i : Int) := by omega
                      have hright : (mid < e ∧ e < b) ∨ ¬ (mid < e ∧ e < b) := Classical.em _
                      rcases hright with hr | hr
                      · have r1 : (mid : Int) < (e : Int) := by omega
                        have r2 : (e : Int) < (b : Int) := by omega
                        first
                          | (exfalso; omega)
                          | (have IR := IH.out mid e b d2 _ (by omega) hr.1 hr.2 (by omega) (by omega) S4.out
                             rw [hs2] at IR
                             have IRH := Lib.hid IR
                             clear IR
                             go_wp2_with (go_at_call 112; (try rw [EZ.out]); (with_reducible refine IRH.out.mono ?_); rintro e' W3 ⟨rfl, S5⟩)
                             go_end0
                             exact ⟨rfl, SW.re S5 (by rw [HFIN.out, if_pos hr])⟩)
                      · rcases Nat.lt_or_ge mid e with r1 | r1
                        · have r1z : (mid : Int) < (e : Int) := by omega
                          have r2 : ¬ (e : Int) < (b : Int) := by omega
                          first
                            | (exfalso; omega)
                            | (go_wp2_with fail
                               go_end0
                               exact ⟨rfl, SW.re S4.out (by rw [HFIN.out, if_neg hr])⟩)
                        · have r1z : ¬ (mid : Int) < (e : Int) := by omega
                          first
                            | (exfalso; omega)
                            | (go_wp2_with fail
                               go_end0
                               exact ⟨rfl, SW.re S4.out (by rw [HFIN.out, if_neg hr])⟩)

end Go.Proofs.YtflbmccjfnkflaaDoor.Q
