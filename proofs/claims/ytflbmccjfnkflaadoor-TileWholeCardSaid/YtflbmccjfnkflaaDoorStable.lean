import Derived.Sort.LotA
set_option linter.unusedVariables false
namespace Go.Proofs.YtflbmccjfnkflaaDoor.StableSort
open Go.Sort
variable {α : Type} [Inhabited α] {lt : α → α → Bool}

/-- d' is d with the parts [p, m) and [m, q) one in the other's place. -/
def IsRot (d d' : Array α) (p m q : Nat) : Prop :=
  d'.size = d.size ∧ (∀ k, k < p ∨ q ≤ k → d'[k]! = d[k]!) ∧ (∀ k, k < q - m → d'[p + k]! = d[m + k]!) ∧ (∀ k, k < m - p → d'[p + (q - m) + k]! = d[p + k]!)
theorem IsRot.none_left (d : Array α) (m q : Nat) (h : m ≤ q) : IsRot d d m m q := ⟨rfl, fun _ _ => rfl, fun _ _ => rfl, fun k hk => by omega⟩
theorem IsRot.none_right (d : Array α) (p m : Nat) (h : p ≤ m) : IsRot d d p m m := ⟨rfl, fun _ _ => rfl, fun k hk => by omega, fun k hk => by congr 1; omega⟩
/-- Whatever stands in order stays so, unless it is unlike. -/
def St (lt : α → α → Bool) (R : α → α → Prop) (d : Array α) (n : Nat) : Prop := ∀ i j, i < j → j < n → lt d[i]! d[j]! = false → lt d[j]! d[i]! = false → R d[i]! d[j]!
theorem IsRot.st {R : α → α → Prop} {d d' : Array α} {p m q n : Nat} (h : IsRot d d' p m q) (hpm : p ≤ m) (hmq : m ≤ q) (hq : q ≤ n) (hlt : ∀ x y, p ≤ x → x < m → m ≤ y → y < q → lt d[y]! d[x]! = true) (hs : St lt R d n) : St lt R d' n := by
  obtain ⟨_, h1, h2, h3⟩ := h
  -- where each thing was
  have ori : ∀ k, ∃ k', d'[k]! = d[k']! ∧ ((k < p ∨ q ≤ k) ∧ k' = k ∨ (p ≤ k ∧ k < p + (q - m)) ∧ k' = m + (k - p) ∨ (p + (q - m) ≤ k ∧ k < q) ∧ k' = p + (k - (p + (q - m)))) := by
    intro k
    by_cases a : k < p ∨ q ≤ k
    · exact ⟨k, h1 k a, .inl ⟨a, rfl⟩⟩
    · by_cases b : k < p + (q - m)
      · refine ⟨m + (k - p), ?_, .inr (.inl ⟨⟨by omega, b⟩, rfl⟩)⟩
        have := h2 (k - p) (by omega)
        rwa [show p + (k - p) = k by omega] at this
      · refine ⟨p + (k - (p + (q - m))), ?_, .inr (.inr ⟨⟨by omega, by omega⟩, rfl⟩)⟩
        have := h3 (k - (p + (q - m))) (by omega)
        rwa [show p + (q - m) + (k - (p + (q - m))) = k by omega] at this
  intro i j hij hj e1 e2
  obtain ⟨i', hi', ci⟩ := ori i
  obtain ⟨j', hj', cj⟩ := ori j
  rw [hi', hj'] at e1 e2 ⊢
  by_cases hlt' : i' < j'
  · exact hs i' j' hlt' (by rcases cj with ⟨_, c⟩ | ⟨_, c⟩ | ⟨_, c⟩ <;> omega) e1 e2
  · -- then i came from the second part, j from the first
    have : p ≤ j' ∧ j' < m ∧ m ≤ i' ∧ i' < q := by
      rcases ci with ⟨a, c⟩ | ⟨a, c⟩ | ⟨a, c⟩ <;> rcases cj with ⟨a2, c2⟩ | ⟨a2, c2⟩ | ⟨a2, c2⟩ <;> omega
    have := hlt j' i' this.1 this.2.1 this.2.2.1 this.2.2.2
    rw [this] at e1; cases e1

/-! exchanging ranges, turning -/
def swpR (a b n i : Nat) (d : Array α) : Array α := if i < n then swpR a b n (i + 1) (swp d (a + i) (b + i)) else d
termination_by n - i
theorem swpR_go (a b n i : Nat) (d : Array α) (h : i < n) : swpR a b n i d = swpR a b n (i + 1) (swp d (a + i) (b + i)) := by rw [swpR, if_pos h]
theorem swpR_stop (a b n i : Nat) (d : Array α) (h : ¬ i < n) : swpR a b n i d = d := by rw [swpR, if_neg h]
theorem swpR_spec (a b n : Nat) (hab : a + n ≤ b) : ∀ (c i : Nat) (d : Array α), n - i = c → i ≤ n → b + n ≤ d.size →
    (swpR a b n i d).size = d.size ∧ (∀ k, i ≤ k → k < n → (swpR a b n i d)[a + k]! = d[b + k]!) ∧ (∀ k, i ≤ k → k < n → (swpR a b n i d)[b + k]! = d[a + k]!) ∧ (∀ x, (x < a + i ∨ a + n ≤ x) → (x < b + i ∨ b + n ≤ x) → (swpR a b n i d)[x]! = d[x]!) ∧ PermIn a (b + n) d (swpR a b n i d) := by
  intro c
  induction c with
  | zero =>
    intro i d hc hi hd
    rw [swpR_stop _ _ _ _ _ (by omega)]
    exact ⟨rfl, fun k h1 h2 => by omega, fun k h1 h2 => by omega, fun _ _ _ => rfl, permIn_refl d _ _⟩
  | succ c ih =>
    intro i d hc hi hd
    rw [swpR_go _ _ _ _ _ (by omega)]
    have hs := size_swp d (a + i) (b + i)
    have hg := swp_get d (i := a + i) (j := b + i) (by omega) (by omega)
    obtain ⟨g0, g1, g2, g3, g4⟩ := ih (i + 1) (swp d (a + i) (b + i)) (by omega) (by omega) (by omega)
    refine ⟨by omega, fun k h1 h2 => ?_, fun k h1 h2 => ?_, fun x h1 h2 => ?_, permIn_trans _ _ _ _ _ (swp_permIn d a (b + n) (a + i) (b + i) (by omega) (by omega) (by omega) (by omega) hd) g4⟩
    · rcases Nat.lt_or_ge i k with hk | hk
      · rw [g1 k hk h2, hg, if_neg (by omega), if_neg (by omega)]
      · obtain rfl : k = i := by omega
        rw [g3 _ (by omega) (by omega), hg, if_neg (by omega), if_pos rfl]
    · rcases Nat.lt_or_ge i k with hk | hk
      · rw [g2 k hk h2, hg, if_neg (by omega), if_neg (by omega)]
      · obtain rfl : k = i := by omega
        rw [g3 _ (by omega) (by omega), hg, if_pos rfl]
    · rw [g3 x (by omega) (by omega), hg, if_neg (by omega), if_neg (by omega)]
/-- The turning's rounds, i things ahead of m and j behind it being left. -/
def rotL (m i j : Nat) (d : Array α) : Array α :=
  if h : i = 0 ∨ j = 0 then d
  else if i = j then swpR (m - i) m i 0 d
  else if j < i then rotL m (i - j) j (swpR (m - i) m j 0 d)
  else rotL m i (j - i) (swpR (m - i) (m + j - i) i 0 d)
termination_by i + j
theorem rotL_eq (m i j : Nat) (d : Array α) (hi : 0 < i) (e : i = j) : rotL m i j d = swpR (m - i) m i 0 d := by rw [rotL, dif_neg (by omega), if_pos e]
theorem rotL_gt (m i j : Nat) (d : Array α) (hj : 0 < j) (e : j < i) : rotL m i j d = rotL m (i - j) j (swpR (m - i) m j 0 d) := by rw [rotL, dif_neg (by omega), if_neg (by omega), if_pos e]
theorem rotL_lt (m i j : Nat) (d : Array α) (hi : 0 < i) (e : i < j) : rotL m i j d = rotL m i (j - i) (swpR (m - i) (m + j - i) i 0 d) := by rw [rotL, dif_neg (by omega), if_neg (by omega), if_neg (by omega)]
theorem rotL_spec (m : Nat) : ∀ (c i j : Nat) (d : Array α), i + j ≤ c → 0 < i → 0 < j → i ≤ m → m + j ≤ d.size → IsRot d (rotL m i j d) (m - i) m (m + j) ∧ PermIn (m - i) (m + j) d (rotL m i j d) := by
  intro c
  induction c with
  | zero => intro i j d h hi hj; omega
  | succ c ih =>
    intro i j d hc hi hj him hm
    rcases Nat.lt_trichotomy i j with h | h | h
    · rw [rotL_lt _ _ _ _ hi h]
      obtain ⟨s0, s1, s2, s3, s4⟩ := swpR_spec (m - i) (m + j - i) i (by omega) i 0 d (by omega) (by omega) (by omega)
      obtain ⟨⟨r0, r1, r2, r3⟩, r4⟩ := ih i (j - i) (swpR (m - i) (m + j - i) i 0 d) (by omega) hi (by omega) him (by omega)
      generalize swpR (m - i) (m + j - i) i 0 d = d1 at *
      generalize rotL m i (j - i) d1 = d2 at *
      refine ⟨⟨by omega, fun k hk => ?_, fun k hk => ?_, fun k hk => ?_⟩, ?_⟩
      · rw [r1 k (by omega), s3 k (by omega) (by omega)]
      · rcases Nat.lt_or_ge k (j - i) with hx | hx
        · rw [r2 k (by omega), s3 _ (by omega) (by omega)]
        · have h1 := r3 (k - (j - i)) (by omega)
          have h2 := s1 (k - (j - i)) (by omega) (by omega)
          rw [show m - i + (m + (j - i) - m) + (k - (j - i)) = m - i + k by omega] at h1
          rw [h1, h2]; congr 1; omega
      · rw [r1 _ (by omega)]
        have h2 := s2 k (by omega) (by omega)
        rw [show m - i + (m + j - m) + k = m + j - i + k by omega, h2]
      · have p1 := permIn_mono _ _ (m - i) (m + j - i + i) (m - i) (m + j) (Nat.le_refl _) (by omega) hm s4
        have p2 := permIn_mono _ _ (m - i) (m + (j - i)) (m - i) (m + j) (Nat.le_refl _) (by omega) (by omega) r4
        exact permIn_trans _ _ _ _ _ p1 p2
    · subst h
      rw [rotL_eq _ _ _ _ hi rfl]
      obtain ⟨s0, s1, s2, s3, s4⟩ := swpR_spec (m - i) m i (by omega) i 0 d (by omega) (by omega) (by omega)
      refine ⟨⟨s0, fun k hk => s3 k (by omega) (by omega), fun k hk => s1 k (by omega) (by omega), fun k hk => ?_⟩, s4⟩
      have := s2 k (by omega) (by omega)
      rw [show m - i + (m + i - m) + k = m + k by omega, this]
    · rw [rotL_gt _ _ _ _ hj h]
      obtain ⟨s0, s1, s2, s3, s4⟩ := swpR_spec (m - i) m j (by omega) j 0 d (by omega) (by omega) (by omega)
      obtain ⟨⟨r0, r1, r2, r3⟩, r4⟩ := ih (i - j) j (swpR (m - i) m j 0 d) (by omega) (by omega) hj (by omega) (by omega)
      generalize swpR (m - i) m j 0 d = d1 at *
      generalize rotL m (i - j) j d1 = d2 at *
      refine ⟨⟨by omega, fun k hk => ?_, fun k hk => ?_, fun k hk => ?_⟩, ?_⟩
      · rw [r1 k (by omega), s3 k (by omega) (by omega)]
      · rw [r1 _ (by omega), s1 k (by omega) (by omega)]
      · rcases Nat.lt_or_ge k j with hx | hx
        · have h1 := r2 k (by omega)
          rw [show m - (i - j) + k = m - i + (m + j - m) + k by omega] at h1
          rw [h1, s2 k (by omega) hx]
        · have h1 := r3 (k - j) (by omega)
          rw [show m - (i - j) + (m + j - m) + (k - j) = m - i + (m + j - m) + k by omega] at h1
          rw [h1, s3 _ (by omega) (by omega)]; congr 1; omega
      · have p1 := permIn_mono _ _ (m - i) (m + j) (m - i) (m + j) (Nat.le_refl _) (by omega) hm s4
        have p2 := permIn_mono _ _ (m - (i - j)) (m + j) (m - i) (m + j) (by omega) (by omega) (by omega) r4
        exact permIn_trans _ _ _ _ _ p1 p2

/-! looking for a place by halves -/
def bs (p : Nat → Bool) (i j : Nat) : Nat := if h : i < j then (if p ((i + j) / 2) = true then bs p ((i + j) / 2 + 1) j else bs p i ((i + j) / 2)) else i
termination_by j - i
theorem bs_go_yes (p : Nat → Bool) (i j : Nat) (h : i < j) (hp : p ((i + j) / 2) = true) : bs p i j = bs p ((i + j) / 2 + 1) j := by rw [bs, dif_pos h, if_pos hp]
theorem bs_go_no (p : Nat → Bool) (i j : Nat) (h : i < j) (hp : p ((i + j) / 2) = false) : bs p i j = bs p i ((i + j) / 2) := by rw [bs, dif_pos h, if_neg (by rw [hp]; decide)]
theorem bs_stop (p : Nat → Bool) (i j : Nat) (h : ¬ i < j) : bs p i j = i := by rw [bs, dif_neg h]
theorem bs_spec (p : Nat → Bool) : ∀ (c i j : Nat), j - i ≤ c → i ≤ j → (∀ x y, i ≤ x → x ≤ y → y < j → p y = true → p x = true) →
    i ≤ bs p i j ∧ bs p i j ≤ j ∧ (∀ x, i ≤ x → x < bs p i j → p x = true) ∧ (∀ x, bs p i j ≤ x → x < j → p x = false) := by
  intro c
  induction c with
  | zero =>
    intro i j hc hij hm
    rw [bs_stop p i j (by omega)]
    exact ⟨Nat.le_refl _, hij, fun x h1 h2 => by omega, fun x h1 h2 => by omega⟩
  | succ c ih =>
    intro i j hc hij hm
    by_cases h : i < j
    · cases hp : p ((i + j) / 2) with
      | true =>
        rw [bs_go_yes p i j h hp]
        obtain ⟨h1, h2, h3, h4⟩ := ih ((i + j) / 2 + 1) j (by omega) (by omega) (fun x y a b c d => hm x y (by omega) b c d)
        refine ⟨by omega, h2, fun x a b => ?_, h4⟩
        by_cases hx : (i + j) / 2 + 1 ≤ x
        · exact h3 x hx b
        · exact hm x ((i + j) / 2) a (by omega) (by omega) hp
      | false =>
        rw [bs_go_no p i j h hp]
        obtain ⟨h1, h2, h3, h4⟩ := ih i ((i + j) / 2) (by omega) (by omega) (fun x y a b c d => hm x y a b (by omega) d)
        refine ⟨h1, by omega, h3, fun x a b => ?_⟩
        by_cases hx : x < (i + j) / 2
        · exact h4 x a hx
        · cases hpx : p x with
          | false => rfl
          | true =>
            have := hm ((i + j) / 2) x (by omega) (by omega) b hpx
            rw [hp] at this; cases this
    · rw [bs_stop p i j h]
      exact ⟨Nat.le_refl _, hij, fun x h1 h2 => by omega, fun x h1 h2 => by omega⟩

/-! one thing moved on, or back -/
def shU (e k : Nat) (d : Array α) : Array α := if k < e then shU e (k + 1) (swp d k (k + 1)) else d
termination_by e - k
theorem shU_go (e k : Nat) (d : Array α) (h : k < e) : shU e k d = shU e (k + 1) (swp d k (k + 1)) := by rw [shU, if_pos h]
theorem shU_stop (e k : Nat) (d : Array α) (h : ¬ k < e) : shU e k d = d := by rw [shU, if_neg h]
theorem shU_spec (e : Nat) : ∀ (c k : Nat) (d : Array α), e - k = c → k ≤ e → e < d.size → IsRot d (shU e k d) k (k + 1) (e + 1) ∧ PermIn k (e + 1) d (shU e k d) := by
  intro c
  induction c with
  | zero =>
    intro k d hc hk hd
    obtain rfl : k = e := by omega
    rw [shU_stop _ _ _ (by omega)]
    exact ⟨IsRot.none_right d k (k + 1) (by omega), permIn_refl _ _ _⟩
  | succ c ih =>
    intro k d hc hk hd
    rw [shU_go _ _ _ (by omega)]
    have hs := size_swp d k (k + 1)
    have hg := swp_get d (i := k) (j := k + 1) (by omega) (by omega)
    obtain ⟨⟨r0, r1, r2, r3⟩, r4⟩ := ih (k + 1) (swp d k (k + 1)) (by omega) (by omega) (by omega)
    have p0 := swp_permIn d k (e + 1) k (k + 1) (by omega) (by omega) (by omega) (by omega) (by omega)
    generalize shU e (k + 1) (swp d k (k + 1)) = d2 at *
    refine ⟨⟨by omega, fun x hx => ?_, fun x hx => ?_, fun x hx => ?_⟩, ?_⟩
    · rw [r1 x (by omega), hg, if_neg (by omega), if_neg (by omega)]
    · rcases Nat.eq_zero_or_pos x with rfl | hx0
      · rw [r1 _ (by omega), hg, if_neg (by omega), if_pos (by omega)]
      · have := r2 (x - 1) (by omega)
        rw [show k + 1 + (x - 1) = k + x by omega] at this
        rw [this, hg, if_neg (by omega), if_neg (by omega)]; congr 1; omega
    · obtain rfl : x = 0 := by omega
      have := r3 0 (by omega)
      rw [show k + 1 + (e + 1 - (k + 1 + 1)) + 0 = k + (e + 1 - (k + 1)) + 0 by omega] at this
      rw [this, hg, if_pos (by omega)]; congr 1
    · exact permIn_trans _ _ _ _ _ p0 (permIn_mono _ _ _ _ _ _ (by omega) (Nat.le_refl _) (by omega) r4)
def shD (i : Nat) : Nat → Array α → Array α
  | 0, d => d
  | k + 1, d => if i < k + 1 then shD i k (swp d (k + 1) k) else d
theorem shD_go (i k : Nat) (d : Array α) (h : i < k) : shD i k d = shD i (k - 1) (swp d k (k - 1)) := by
  obtain ⟨k, rfl⟩ : ∃ q, k = q + 1 := ⟨k - 1, by omega⟩
  rw [shD, if_pos h]; rfl
theorem shD_stop (i k : Nat) (d : Array α) (h : ¬ i < k) : shD i k d = d := by
  cases k with
  | zero => rfl
  | succ k => rw [shD, if_neg h]
theorem shD_spec (i : Nat) : ∀ (c k : Nat) (d : Array α), k - i = c → i ≤ k → k < d.size → IsRot d (shD i k d) i k (k + 1) ∧ PermIn i (k + 1) d (shD i k d) := by
  intro c
  induction c with
  | zero =>
    intro k d hc hk hd
    obtain rfl : k = i := by omega
    rw [shD_stop _ _ _ (by omega)]
    exact ⟨IsRot.none_left d k (k + 1) (by omega), permIn_refl _ _ _⟩
  | succ c ih =>
    intro k d hc hk hd
    rw [shD_go _ _ _ (by omega)]
    have hs := size_swp d k (k - 1)
    have hg := swp_get d (i := k) (j := k - 1) (by omega) (by omega)
    obtain ⟨⟨r0, r1, r2, r3⟩, r4⟩ := ih (k - 1) (swp d k (k - 1)) (by omega) (by omega) (by omega)
    have p0 := swp_permIn d i (k + 1) k (k - 1) (by omega) (by omega) (by omega) (by omega) (by omega)
    generalize shD i (k - 1) (swp d k (k - 1)) = d2 at *
    refine ⟨⟨by omega, fun x hx => ?_, fun x hx => ?_, fun x hx => ?_⟩, ?_⟩
    · rw [r1 x (by omega), hg, if_neg (by omega), if_neg (by omega)]
    · obtain rfl : x = 0 := by omega
      have := r2 0 (by omega)
      rw [this, hg, if_pos (by omega)]; rfl
    · rcases Nat.lt_or_ge x (k - 1 - i) with hx1 | hx1
      · have := r3 x (by omega)
        rw [show i + (k - 1 + 1 - (k - 1)) + x = i + (k + 1 - k) + x by omega] at this
        rw [this, hg, if_neg (by omega), if_neg (by omega)]
      · rw [r1 _ (by omega), hg, if_neg (by omega), if_pos (by omega)]; congr 1; omega
    · exact permIn_trans _ _ _ _ _ p0 (permIn_mono _ _ _ _ _ _ (Nat.le_refl _) (by omega) (by omega) r4)

/-! symMerge -/
def symStart (lt : α → α → Bool) (a m b : Nat) (d : Array α) : Nat :=
  if m > (a + b) / 2 then bs (fun c => !lt d[(a + b) / 2 + m - 1 - c]! d[c]!) ((a + b) / 2 + m - b) ((a + b) / 2) else bs (fun c => !lt d[(a + b) / 2 + m - 1 - c]! d[c]!) a m
def symRot (a m b s : Nat) (d : Array α) : Array α := if s < m ∧ m < (a + b) / 2 + m - s then rotL m (m - s) ((a + b) / 2 - s) d else d
def symM (lt : α → α → Bool) : Nat → Nat → Nat → Nat → Array α → Array α
  | 0, _, _, _, d => d
  | f + 1, a, m, b, d =>
    if m - a = 1 then shU (bs (fun h => lt d[h]! d[a]!) m b - 1) a d
    else if b - m = 1 then shD (bs (fun h => !lt d[m]! d[h]!) a m) m d
    else
      let s := symStart lt a m b d
      let d1 := symRot a m b s d
      let d2 := if a < s ∧ s < (a + b) / 2 then symM lt f a s ((a + b) / 2) d1 else d1
      if (a + b) / 2 < (a + b) / 2 + m - s ∧ (a + b) / 2 + m - s < b then symM lt f ((a + b) / 2) ((a + b) / 2 + m - s) b d2 else d2
theorem SortedIn.sub {a b a' b' : Nat} {d : Array α} (h : SortedIn lt a b d) (ha : a ≤ a') (hb : b' ≤ b) : SortedIn lt a' b' d := fun i j h1 h2 h3 => h i j (by omega) h2 (by omega)
omit [Inhabited α] in
theorem le_lt_le (hS : SWO lt) {x e s y : α} (h1 : lt e x = false) (h2 : lt e s = true) (h3 : lt y s = false) : lt x y = true := by
  cases h : lt x y with
  | true => rfl
  | false =>
    have := hS.ntrans _ _ _ h h3
    have := hS.ntrans _ _ _ h1 this
    rw [h2] at this; cases this
theorem SortedIn.le (hS : SWO lt) {a b : Nat} {d : Array α} (h : SortedIn lt a b d) {i j : Nat} (h1 : a ≤ i) (h2 : i ≤ j) (h3 : j < b) : lt d[j]! d[i]! = false := by
  rcases Nat.lt_or_ge i j with h4 | h4
  · exact h i j h1 h4 h3
  · obtain rfl : i = j := by omega
    exact hS.irrefl _
/-- Two sorted parts are side by side, in order. -/
theorem SortedIn.join {a m b : Nat} {d : Array α} (h1 : SortedIn lt a m d) (h2 : SortedIn lt m b d) (h : ∀ x y, a ≤ x → x < m → m ≤ y → y < b → lt d[y]! d[x]! = false) : SortedIn lt a b d := by
  intro i j hi hij hj
  rcases Nat.lt_or_ge j m with c | c
  · exact h1 i j hi hij c
  · rcases Nat.lt_or_ge i m with e | e
    · exact h i j hi e c hj
    · exact h2 i j e hij hj
theorem symM_spec (hS : SWO lt) (R : α → α → Prop) (n : Nat) : ∀ (f a m b : Nat) (d : Array α), b - a ≤ f → a < m → m < b → b ≤ n → n ≤ d.size → SortedIn lt a m d → SortedIn lt m b d → St lt R d n →
    SortedIn lt a b (symM lt f a m b d) ∧ PermIn a b d (symM lt f a m b d) ∧ St lt R (symM lt f a m b d) n := by
  intro f
  induction f with
  | zero => intro a m b d h h1 h2; omega
  | succ f ih =>
    intro a m b d hf ham hmb hbn hnd hs1 hs2 hst
    rw [symM]
    by_cases c1 : m - a = 1
    · rw [if_pos c1]
      obtain rfl : m = a + 1 := by omega
      obtain ⟨b1, b2, b3, b4⟩ := bs_spec (fun h => lt d[h]! d[a]!) _ (a + 1) b (Nat.le_refl _) (by omega) (fun x y h1 h2 h3 h4 => by
        cases h : lt d[x]! d[a]! with
        | true => rfl
        | false =>
          have := hS.ntrans _ _ _ (SortedIn.le hS hs2 h1 h2 h3) h
          simp only [this] at h4; cases h4)
      generalize bs (fun h => lt d[h]! d[a]!) (a + 1) b = i at *
      obtain ⟨rot, perm⟩ := shU_spec (i - 1) _ a d rfl (by omega) (by omega)
      rw [show i - 1 + 1 = i by omega] at rot perm
      have hst' := rot.st (n := n) (by omega) (by omega) (by omega) (fun x y h1 h2 h3 h4 => by obtain rfl : x = a := (by omega); exact b3 y h3 h4) hst
      refine ⟨?_, permIn_mono _ _ _ _ _ _ (Nat.le_refl _) b2 (by omega) perm, hst'⟩
      obtain ⟨r0, r1, r2, r3⟩ := rot
      generalize shU (i - 1) a d = d' at *
      have key : ∀ k, a ≤ k → k < i - 1 → d'[k]! = d[k + 1]! := fun k h1 h2 => by
        have := r2 (k - a) (by omega)
        rw [show a + (k - a) = k by omega, show a + 1 + (k - a) = k + 1 by omega] at this; exact this
      have last : d'[i - 1]! = d[a]! := by
        have := r3 0 (by omega)
        rw [show a + (i - (a + 1)) + 0 = i - 1 by omega] at this; exact this
      have rest : ∀ k, i ≤ k → d'[k]! = d[k]! := fun k h => r1 k (.inr h)
      intro x y hx hxy hy
      by_cases y1 : y < i - 1
      · rw [key x hx (by omega), key y (by omega) y1]
        exact hs2 _ _ (by omega) (by omega) (by omega)
      · by_cases y2 : y = i - 1
        · rw [y2, last, key x hx (by omega)]
          exact hS.asymmA (b3 (x + 1) (by omega) (by omega))
        · rw [rest y (by omega)]
          by_cases x1 : x < i - 1
          · rw [key x hx x1]; exact hs2 _ _ (by omega) (by omega) (by omega)
          · by_cases x2 : x = i - 1
            · rw [x2, last]; exact b4 y (by omega) hy
            · rw [rest x (by omega)]; exact hs2 _ _ (by omega) (by omega) (by omega)
    · rw [if_neg c1]
      by_cases c2 : b - m = 1
      · rw [if_pos c2]
        obtain rfl : b = m + 1 := by omega
        obtain ⟨b1, b2, b3, b4⟩ := bs_spec (fun h => !lt d[m]! d[h]!) _ a m (Nat.le_refl _) (by omega) (fun x y h1 h2 h3 h4 => by
          simp only [Bool.not_eq_true'] at h4 ⊢
          exact hS.ntrans _ _ _ h4 (SortedIn.le hS hs1 h1 h2 h3))
        generalize bs (fun h => !lt d[m]! d[h]!) a m = i at *
        simp only [Bool.not_eq_true', Bool.not_eq_false'] at b3 b4
        obtain ⟨rot, perm⟩ := shD_spec i _ m d rfl (by omega) (by omega)
        have hst' := rot.st (n := n) (by omega) (by omega) (by omega) (fun x y h1 h2 h3 h4 => by obtain rfl : y = m := (by omega); exact b4 x h1 h2) hst
        refine ⟨?_, permIn_mono _ _ _ _ _ _ b1 (Nat.le_refl _) (by omega) perm, hst'⟩
        obtain ⟨r0, r1, r2, r3⟩ := rot
        generalize shD i m d = d' at *
        have here : d'[i]! = d[m]! := by
          have := r2 0 (by omega); exact this
        have key : ∀ k, i < k → k ≤ m → d'[k]! = d[k - 1]! := fun k h1 h2 => by
          have := r3 (k - 1 - i) (by omega)
          rw [show i + (m + 1 - m) + (k - 1 - i) = k by omega, show i + (k - 1 - i) = k - 1 by omega] at this; exact this
        have rest : ∀ k, k < i → d'[k]! = d[k]! := fun k h => r1 k (.inl h)
        intro x y hx hxy hy
        by_cases y1 : y < i
        · rw [rest y y1, rest x (by omega)]; exact hs1 _ _ hx hxy (by omega)
        · by_cases y2 : y = i
          · rw [y2, here, rest x (by omega)]; exact b3 x hx (by omega)
          · rw [key y (by omega) (by omega)]
            by_cases x1 : x < i
            · rw [rest x x1]; exact hs1 _ _ hx (by omega) (by omega)
            · by_cases x2 : x = i
              · rw [x2, here]; exact hS.asymmA (b4 (y - 1) (by omega) (by omega))
              · rw [key x (by omega) (by omega)]; exact hs1 _ _ (by omega) (by omega) (by omega)
      · rw [if_neg c2]
        dsimp only
        obtain ⟨mid, hmid⟩ : ∃ q, (a + b) / 2 = q := ⟨_, rfl⟩
        rw [hmid]
        have hm1 : a + b = 2 * mid ∨ a + b = 2 * mid + 1 := by omega
        -- the place
        obtain ⟨s, hs, hsa, hsm, hsmid, hsb, hlow, hhigh⟩ : ∃ s, symStart lt a m b d = s ∧ a ≤ s ∧ s ≤ m ∧ s ≤ mid ∧ mid + m - s ≤ b ∧
            (a < s → mid + m - s < b → lt d[mid + m - s]! d[s - 1]! = false) ∧ (s < m → s < mid → lt d[mid + m - s - 1]! d[s]! = true) := by
          have mono : ∀ lo hi, a ≤ lo → hi ≤ m → mid + m - b ≤ lo → (∀ c, c < hi → m ≤ mid + m - 1 - c) → ∀ x y, lo ≤ x → x ≤ y → y < hi → (fun c => !lt d[mid + m - 1 - c]! d[c]!) y = true → (fun c => !lt d[mid + m - 1 - c]! d[c]!) x = true := by
            intro lo hi h1 h2 h3 h4 x y h5 h6 h7 h8
            simp only [Bool.not_eq_true'] at h8 ⊢
            have e1 := SortedIn.le hS hs1 (i := x) (j := y) (by omega) h6 (by omega)
            have e2 := SortedIn.le hS hs2 (i := mid + m - 1 - y) (j := mid + m - 1 - x) (h4 y h7) (by omega) (by omega)
            exact hS.ntrans _ _ _ e2 (hS.ntrans _ _ _ h8 e1)
          unfold symStart
          rw [hmid]
          by_cases hgt : m > mid
          · rw [if_pos hgt]
            obtain ⟨b1, b2, b3, b4⟩ := bs_spec (fun c => !lt d[mid + m - 1 - c]! d[c]!) _ (mid + m - b) mid (Nat.le_refl _) (by omega) (mono _ _ (by omega) (by omega) (Nat.le_refl _) (fun c hc => by omega))
            refine ⟨_, rfl, by omega, by omega, by omega, by omega, fun h1 h2 => ?_, fun h1 h2 => ?_⟩
            · have := b3 (bs (fun c => !lt d[mid + m - 1 - c]! d[c]!) (mid + m - b) mid - 1) (by omega) (by omega)
              simp only [Bool.not_eq_true'] at this
              rw [← this]; congr 2; omega
            · have := b4 (bs (fun c => !lt d[mid + m - 1 - c]! d[c]!) (mid + m - b) mid) (Nat.le_refl _) (by omega)
              simp only [Bool.not_eq_false'] at this
              rw [← this]; congr 2; omega
          · rw [if_neg hgt]
            obtain ⟨b1, b2, b3, b4⟩ := bs_spec (fun c => !lt d[mid + m - 1 - c]! d[c]!) _ a m (Nat.le_refl _) (by omega) (mono _ _ (by omega) (by omega) (by omega) (fun c hc => by omega))
            refine ⟨_, rfl, by omega, by omega, by omega, by omega, fun h1 h2 => ?_, fun h1 h2 => ?_⟩
            · have := b3 (bs (fun c => !lt d[mid + m - 1 - c]! d[c]!) a m - 1) (by omega) (by omega)
              simp only [Bool.not_eq_true'] at this
              rw [← this]; congr 2; omega
            · have := b4 (bs (fun c => !lt d[mid + m - 1 - c]! d[c]!) a m) (Nat.le_refl _) (by omega)
              simp only [Bool.not_eq_false'] at this
              rw [← this]; congr 2; omega
        rw [hs]
        clear hs
        -- the turn
        obtain ⟨d1, hd1, rot, perm1⟩ : ∃ d1, symRot a m b s d = d1 ∧ IsRot d d1 s m (mid + m - s) ∧ PermIn a b d d1 := by
          unfold symRot
          rw [hmid]
          by_cases hr : s < m ∧ m < mid + m - s
          · rw [if_pos hr]
            obtain ⟨r1, r2⟩ := rotL_spec m _ (m - s) (mid - s) d (Nat.le_refl _) (by omega) (by omega) (by omega) (by omega)
            rw [show m - (m - s) = s by omega, show m + (mid - s) = mid + m - s by omega] at r1 r2
            exact ⟨_, rfl, r1, permIn_mono _ _ _ _ _ _ hsa hsb (by omega) r2⟩
          · rw [if_neg hr]
            refine ⟨_, rfl, ?_, permIn_refl _ _ _⟩
            rcases Nat.lt_or_ge s m with h | h
            · have e : mid + m - s = m := by omega
              rw [e]; exact IsRot.none_right d s m (by omega)
            · obtain rfl : s = m := by omega
              exact IsRot.none_left d s _ (by omega)
        rw [hd1]
        clear hd1
        obtain ⟨e, he⟩ : ∃ e, mid + m - s = e := ⟨_, rfl⟩
        rw [he] at rot hhigh hlow hsb ⊢
        have hu : ∀ x y, s ≤ x → x < m → m ≤ y → y < e → lt d[y]! d[x]! = true := fun x y h1 h2 h3 h4 =>
          le_lt_le hS (SortedIn.le hS hs2 h3 (show y ≤ e - 1 by omega) (by omega)) (hhigh (by omega) (by omega)) (SortedIn.le hS hs1 hsa h1 h2)
        have hst1 := rot.st (n := n) (by omega) (by omega) (by omega) hu hst
        obtain ⟨r0, r1, r2, r3⟩ := rot
        have keyL : ∀ k, s ≤ k → k < mid → d1[k]! = d[m + (k - s)]! := fun k h1 h2 => by
          have := r2 (k - s) (by omega)
          rwa [show s + (k - s) = k by omega] at this
        have keyR : ∀ k, mid ≤ k → k < e → d1[k]! = d[s + (k - mid)]! := fun k h1 h2 => by
          have := r3 (k - mid) (by omega)
          rwa [show s + (e - m) + (k - mid) = k by omega] at this
        have restL : ∀ k, k < s → d1[k]! = d[k]! := fun k h => r1 k (.inl h)
        have restR : ∀ k, e ≤ k → d1[k]! = d[k]! := fun k h => r1 k (.inr h)
        have sL1 : SortedIn lt a s d1 := fun i j h1 h2 h3 => by rw [restL i (by omega), restL j h3]; exact hs1 i j h1 h2 (by omega)
        have sL2 : SortedIn lt s mid d1 := fun i j h1 h2 h3 => by rw [keyL i h1 (by omega), keyL j (by omega) h3]; exact hs2 _ _ (by omega) (by omega) (by omega)
        have sR1 : SortedIn lt mid e d1 := fun i j h1 h2 h3 => by rw [keyR i h1 (by omega), keyR j (by omega) h3]; exact hs1 _ _ (by omega) (by omega) (by omega)
        have sR2 : SortedIn lt e b d1 := fun i j h1 h2 h3 => by rw [restR i h1, restR j (by omega)]; exact hs2 _ _ (by omega) h2 h3
        have cross : ∀ x y, a ≤ x → x < mid → mid ≤ y → y < b → lt d1[y]! d1[x]! = false := by
          intro x y h1 h2 h3 h4
          by_cases hx : x < s
          · rw [restL x hx]
            by_cases hy : y < e
            · rw [keyR y h3 hy]; exact hs1 _ _ h1 (by omega) (by omega)
            · rw [restR y (by omega)]
              have l1 := hlow (by omega) (by omega)
              have l2 := SortedIn.le hS hs1 h1 (show x ≤ s - 1 by omega) (by omega)
              have l3 := SortedIn.le hS hs2 (i := e) (j := y) (by omega) (by omega) h4
              exact hS.ntrans _ _ _ l3 (hS.ntrans _ _ _ l1 l2)
          · rw [keyL x (by omega) h2]
            by_cases hy : y < e
            · rw [keyR y h3 hy]; exact hS.asymmA (hu _ _ (by omega) (by omega) (by omega) (by omega))
            · rw [restR y (by omega)]; exact hs2 _ _ (by omega) (by omega) h4
        -- the left half
        obtain ⟨d2, hd2, s2, p2, st2⟩ : ∃ d2, (if a < s ∧ s < mid then symM lt f a s mid d1 else d1) = d2 ∧ SortedIn lt a mid d2 ∧ PermIn a mid d1 d2 ∧ St lt R d2 n := by
          by_cases hc : a < s ∧ s < mid
          · rw [if_pos hc]
            obtain ⟨h1, h2, h3⟩ := ih a s mid d1 (by omega) hc.1 hc.2 (by omega) (by omega) sL1 sL2 hst1
            exact ⟨_, rfl, h1, h2, h3⟩
          · rw [if_neg hc]
            refine ⟨_, rfl, ?_, permIn_refl _ _ _, hst1⟩
            rcases Nat.lt_or_ge a s with h | h
            · obtain rfl : s = mid := by omega
              exact sL1
            · obtain rfl : s = a := by omega
              exact sL2
        rw [hd2]
        clear hd2
        have sz2 : d2.size = d1.size := p2.1
        have sR1' : SortedIn lt mid e d2 := fun i j h1 h2 h3 => by rw [p2.2.1 i (.inr h1), p2.2.1 j (.inr (by omega))]; exact sR1 i j h1 h2 h3
        have sR2' : SortedIn lt e b d2 := fun i j h1 h2 h3 => by rw [p2.2.1 i (.inr (by omega)), p2.2.1 j (.inr (by omega))]; exact sR2 i j h1 h2 h3
        have cross2 : ∀ x y, a ≤ x → x < mid → mid ≤ y → y < b → lt d2[y]! d2[x]! = false := by
          intro x y h1 h2 h3 h4
          rw [p2.2.1 y (.inr h3)]
          exact permIn_all d1 d2 a mid (fun z => lt d1[y]! z = false) (by omega) p2 (fun i h5 h6 => cross i y h5 h6 h3 h4) x h1 h2
        -- the right half
        obtain ⟨d3, hd3, s3, p3, st3⟩ : ∃ d3, (if mid < e ∧ e < b then symM lt f mid e b d2 else d2) = d3 ∧ SortedIn lt mid b d3 ∧ PermIn mid b d2 d3 ∧ St lt R d3 n := by
          by_cases hc : mid < e ∧ e < b
          · rw [if_pos hc]
            obtain ⟨h1, h2, h3⟩ := ih mid e b d2 (by omega) hc.1 hc.2 (by omega) (by omega) sR1' sR2' st2
            exact ⟨_, rfl, h1, h2, h3⟩
          · rw [if_neg hc]
            refine ⟨_, rfl, ?_, permIn_refl _ _ _, st2⟩
            rcases Nat.lt_or_ge mid e with h | h
            · obtain rfl : e = b := by omega
              exact sR1'
            · obtain rfl : e = mid := by omega
              exact sR2'
        rw [hd3]
        refine ⟨?_, ?_, st3⟩
        · refine SortedIn.join (m := mid) (fun i j h1 h2 h3 => by rw [p3.2.1 i (.inl (by omega)), p3.2.1 j (.inl h3)]; exact s2 i j h1 h2 h3) s3 ?_
          intro x y h1 h2 h3 h4
          rw [p3.2.1 x (.inl h2)]
          exact permIn_all d2 d3 mid b (fun z => lt z d2[x]! = false) (by omega) p3 (fun i h5 h6 => cross2 x i h1 h2 h5 h6) y h3 h4
        · exact permIn_trans _ _ _ _ _ perm1 (permIn_trans _ _ _ _ _ (permIn_mono _ _ _ _ _ _ (Nat.le_refl _) (by omega) (by omega) p2) (permIn_mono _ _ _ _ _ _ (by omega) (Nat.le_refl _) (by omega) p3))

/-! insertion sort leaves what is alike in order -/
theorem swp_st {R : α → α → Prop} {d : Array α} {j n : Nat} (hj : j + 1 < n) (hn : n ≤ d.size) (hlt : lt d[j + 1]! d[j]! = true) (hs : St lt R d n) : St lt R (swp d (j + 1) j) n := by
  have hg := swp_get d (i := j + 1) (j := j) (by omega) (by omega)
  refine IsRot.st (p := j) (m := j + 1) (q := j + 2) ⟨size_swp _ _ _, fun k hk => ?_, fun k hk => ?_, fun k hk => ?_⟩ (by omega) (by omega) (by omega) (fun x y h1 h2 h3 h4 => ?_) hs
  · rw [hg, if_neg (by omega), if_neg (by omega)]
  · obtain rfl : k = 0 := by omega
    rw [hg, if_pos (by omega)]
  · obtain rfl : k = 0 := by omega
    rw [hg, if_neg (by omega), if_pos (by omega)]; rfl
  · obtain rfl : x = j := by omega
    obtain rfl : y = x + 1 := by omega
    exact hlt
theorem insInner_st {R : α → α → Prop} (a n : Nat) : ∀ (j : Nat) (d : Array α), j < n → n ≤ d.size → St lt R d n → St lt R (insInner lt a j d) n ∧ (insInner lt a j d).size = d.size := by
  intro j
  induction j with
  | zero => intro d _ _ h; exact ⟨h, rfl⟩
  | succ j ih =>
    intro d hj hn h
    rw [insInner]
    split
    · rename_i hc
      simp only [Bool.and_eq_true, decide_eq_true_eq] at hc
      have h1 := swp_st hj hn hc.2 h
      have hsz := size_swp d (j + 1) j
      obtain ⟨h2, h3⟩ := ih (swp d (j + 1) j) (by omega) (by omega) h1
      exact ⟨h2, by omega⟩
    · exact ⟨h, rfl⟩
theorem insOuter_st {R : α → α → Prop} (a b n : Nat) (hb : b ≤ n) : ∀ (c i : Nat) (d : Array α), b - i = c → n ≤ d.size → St lt R d n → St lt R (insOuter lt a b i d) n := by
  intro c
  induction c with
  | zero =>
    intro i d hc hn h
    rw [insOuter, if_neg (by omega)]; exact h
  | succ c ih =>
    intro i d hc hn h
    rw [insOuter, if_pos (by omega)]
    obtain ⟨h1, h2⟩ := insInner_st a n i d (by omega) hn h
    exact ih (i + 1) _ (by omega) (by omega) h1
theorem insertionSort_st {R : α → α → Prop} (d : Array α) (a b n : Nat) (hb : b ≤ n) (hn : n ≤ d.size) (h : St lt R d n) : St lt R (insertionSort lt d a b) n := insOuter_st a b n hb _ _ d rfl hn h

/-- What slices.stableCmpFunc makes of a row of 40 at most. -/
def stab (lt : α → α → Bool) (d : Array α) : Array α :=
  if d.size ≤ 20 then insertionSort lt d 0 d.size
  else symM lt d.size 0 20 d.size (insertionSort lt (insertionSort lt d 0 20) 20 d.size)
theorem stab_spec (hS : SWO lt) (R : α → α → Prop) (d : Array α) (h : St lt R d d.size) :
    SortedIn lt 0 d.size (stab lt d) ∧ PermIn 0 d.size d (stab lt d) ∧ St lt R (stab lt d) d.size := by
  unfold stab
  split
  · obtain ⟨h1, h2⟩ := insertionSort_holds hS d 0 d.size (by omega) (Nat.le_refl _)
    exact ⟨h2, h1, insertionSort_st d 0 d.size d.size (Nat.le_refl _) (Nat.le_refl _) h⟩
  · rename_i hc
    obtain ⟨p1, s1⟩ := insertionSort_holds hS d 0 20 (by omega) (by omega)
    have t1 := insertionSort_st d 0 20 d.size (by omega) (Nat.le_refl _) h
    obtain ⟨p2, s2⟩ := insertionSort_holds hS (insertionSort lt d 0 20) 20 d.size (by omega) (by rw [p1.1]; exact Nat.le_refl _)
    have t2 := insertionSort_st (insertionSort lt d 0 20) 20 d.size d.size (Nat.le_refl _) (by rw [p1.1]; exact Nat.le_refl _) t1
    have hsz : d.size ≤ (insertionSort lt (insertionSort lt d 0 20) 20 d.size).size := by rw [p2.1, p1.1]; exact Nat.le_refl _
    obtain ⟨s3, p3, t3⟩ := symM_spec hS R d.size d.size 0 20 d.size _ (by omega) (by omega) (by omega) (Nat.le_refl _) hsz
      (fun i j h1 h2 h3 => by rw [p2.2.1 i (.inl (by omega)), p2.2.1 j (.inl h3)]; exact s1 i j h1 h2 h3) s2 t2
    have q1 := permIn_mono _ _ 0 20 0 d.size (Nat.le_refl _) (by omega) (Nat.le_refl _) p1
    have q2 := permIn_mono _ _ 20 d.size 0 d.size (by omega) (Nat.le_refl _) (by rw [p1.1]; exact Nat.le_refl _) p2
    exact ⟨s3, permIn_trans _ _ _ _ _ q1 (permIn_trans _ _ _ _ _ q2 p3), t3⟩
theorem stab_size (hS : SWO lt) (d : Array α) : (stab lt d).size = d.size := (stab_spec hS (fun _ _ => True) d (fun _ _ _ _ _ _ => trivial)).2.1.1

/-! numbers that rise, sorted by keys below eight -/
def ltK (K : Int → Int) (x y : Int) : Bool := decide (K x < K y)
theorem swo_ltK (K : Int → Int) : SWO (ltK K) := ⟨fun x => by simp [ltK], fun x y z h1 h2 => by simp [ltK] at h1 h2 ⊢; omega, fun x y z h1 h2 => by simp [ltK] at h1 h2 ⊢; omega⟩
/-- Those with key 0, with key 1, .. . -/
def byKey (K : Int → Int) (l : List Int) (m : Nat) : List Int := (List.range m).flatMap fun (n : Nat) => l.filter fun x => K x == (n : Int)
theorem byKey_succ (K : Int → Int) (l : List Int) (m : Nat) : byKey K l (m + 1) = byKey K l m ++ l.filter fun x => K x == (m : Int) := by
  unfold byKey; rw [List.range_succ, List.flatMap_append]; simp
theorem byKey_perm (K : Int → Int) (l : List Int) (h0 : ∀ x ∈ l, 0 ≤ K x) : ∀ m : Nat, (byKey K l m).Perm (l.filter fun x => decide (K x < (m : Int))) := by
  intro m
  induction m with
  | zero =>
    have : (l.filter fun x => decide (K x < ((0 : Nat) : Int))) = [] := by
      rw [List.filter_eq_nil_iff]; intro x hx; have := h0 x hx; simp; omega
    rw [this]; exact List.Perm.refl _
  | succ m ih =>
    rw [byKey_succ]
    refine (ih.append_right _).trans ?_
    have e1 : (l.filter fun x => decide (K x < (m : Int))) = (l.filter fun x => decide (K x < ((m + 1 : Nat) : Int))).filter fun x => decide (K x < (m : Int)) := by
      rw [List.filter_filter]; refine List.filter_congr ?_; intro x hx; rw [Bool.eq_iff_iff]; simp; omega
    have e2 : (l.filter fun x => K x == (m : Int)) = (l.filter fun x => decide (K x < ((m + 1 : Nat) : Int))).filter fun x => !decide (K x < (m : Int)) := by
      rw [List.filter_filter]; refine List.filter_congr ?_; intro x hx; rw [Bool.eq_iff_iff]; simp; omega
    rw [e1, e2]
    exact List.filter_append_perm _ _
def lexK (K : Int → Int) (x y : Int) : Prop := K x < K y ∨ K x = K y ∧ x < y
theorem byKey_lex (K : Int → Int) (l : List Int) (hl : l.Pairwise (· < ·)) : ∀ m : Nat, (byKey K l m).Pairwise (lexK K) ∧ ∀ x ∈ byKey K l m, K x < (m : Int) := by
  intro m
  induction m with
  | zero => exact ⟨List.Pairwise.nil, fun x hx => by cases hx⟩
  | succ m ih =>
    rw [byKey_succ]
    refine ⟨List.pairwise_append.2 ⟨ih.1, ?_, fun x hx y hy => ?_⟩, fun x hx => ?_⟩
    · have h := hl.filter (fun x => K x == (m : Int))
      refine List.Pairwise.imp_of_mem ?_ h
      intro a b ha hb hab
      have ha := (List.mem_filter.1 ha).2
      have hb := (List.mem_filter.1 hb).2
      simp at ha hb
      exact .inr ⟨by omega, hab⟩
    · have h1 := ih.2 x hx
      have h2 := (List.mem_filter.1 hy).2
      simp at h2
      exact .inl (by omega)
    · rcases List.mem_append.1 hx with hx | hx
      · have := ih.2 x hx; omega
      · have h2 := (List.mem_filter.1 hx).2
        simp at h2; omega
theorem stab_byKey (K : Int → Int) (l : List Int) (hl : l.Pairwise (· < ·)) (m : Nat) (hK : ∀ x ∈ l, 0 ≤ K x ∧ K x < (m : Int)) : (stab (ltK K) l.toArray).toList = byKey K l m := by
  have hget : ∀ i, i < l.length → l.toArray[i]! = l[i]! := fun i hi => by simp
  have hst : St (ltK K) (· < ·) l.toArray l.toArray.size := by
    intro i j hij hj _ _
    simp only [List.size_toArray] at hj
    have h := List.pairwise_iff_getElem.1 hl i j (by omega) hj hij
    rw [getElem!_pos l.toArray i (by simp; omega), getElem!_pos l.toArray j (by simpa using hj)]
    simpa using h
  obtain ⟨h1, h2, h3⟩ := stab_spec (swo_ltK K) (· < ·) l.toArray hst
  obtain ⟨d, hd⟩ : ∃ d, stab (ltK K) l.toArray = d := ⟨_, rfl⟩
  rw [hd] at h1 h2 h3 ⊢
  have hsz : d.size = l.length := by rw [h2.1]; simp
  have hp : d.toList.Perm l := by
    have := h2.2.2
    rwa [show l.toArray.size = d.size by simp [hsz], Array.extract_eq_self_of_le (Nat.le_refl _), show d.size = l.toArray.size by simp [hsz], Array.extract_eq_self_of_le (Nat.le_refl _)] at this
  have hlex : d.toList.Pairwise (lexK K) := by
    rw [List.pairwise_iff_getElem]
    intro i j hi hj hij
    simp only [Array.length_toList] at hi hj
    have e1 := h1 i j (by omega) hij (by simp; omega)
    have e2 := h3 i j hij (by simp; omega)
    rw [getElem!_pos d i hi, getElem!_pos d j hj] at e1 e2
    simp only [ltK, decide_eq_false_iff_not] at e1 e2
    simp only [Array.getElem_toList]
    rcases Int.lt_trichotomy (K d[i]) (K d[j]) with h | h | h
    · exact .inl h
    · exact .inr ⟨h, e2 (by omega) (by omega)⟩
    · omega
  have hb := byKey_perm K l (fun x hx => (hK x hx).1) m
  have hf : (l.filter fun x => decide (K x < (m : Int))) = l := by
    rw [List.filter_eq_self]; intro x hx; simpa using (hK x hx).2
  rw [hf] at hb
  refine List.Perm.eq_of_pairwise (le := lexK K) ?_ hlex (byKey_lex K l hl m).1 (hp.trans hb.symm)
  intro a b _ _ h1 h2
  rcases h1 with h1 | h1 <;> rcases h2 with h2 | h2 <;> omega

/-! sizes -/
theorem swpR_size (a b n : Nat) : ∀ (c i : Nat) (d : Array α), n - i = c → (swpR a b n i d).size = d.size := by
  intro c
  induction c with
  | zero => intro i d h; rw [swpR_stop _ _ _ _ _ (by omega)]
  | succ c ih => intro i d h; rw [swpR_go _ _ _ _ _ (by omega), ih (i + 1) _ (by omega), size_swp]
theorem rotL_size (m : Nat) : ∀ (c i j : Nat) (d : Array α), i + j ≤ c → (rotL m i j d).size = d.size := by
  intro c
  induction c with
  | zero => intro i j d h; rw [rotL, dif_pos (by omega)]
  | succ c ih =>
    intro i j d h
    by_cases h0 : i = 0 ∨ j = 0
    · rw [rotL, dif_pos h0]
    · rcases Nat.lt_trichotomy i j with e | e | e
      · rw [rotL_lt _ _ _ _ (by omega) e, ih i (j - i) _ (by omega), swpR_size _ _ _ _ _ _ rfl]
      · rw [rotL_eq _ _ _ _ (by omega) e, swpR_size _ _ _ _ _ _ rfl]
      · rw [rotL_gt _ _ _ _ (by omega) e, ih (i - j) j _ (by omega), swpR_size _ _ _ _ _ _ rfl]
theorem shU_size (e : Nat) : ∀ (c k : Nat) (d : Array α), e - k = c → (shU e k d).size = d.size := by
  intro c
  induction c with
  | zero => intro k d h; rw [shU_stop _ _ _ (by omega)]
  | succ c ih => intro k d h; rw [shU_go _ _ _ (by omega), ih (k + 1) _ (by omega), size_swp]
theorem shD_size (i : Nat) : ∀ (k : Nat) (d : Array α), (shD i k d).size = d.size := by
  intro k
  induction k with
  | zero => intro d; rfl
  | succ k ih => intro d; rw [shD]; split <;> simp [ih, size_swp]
theorem symRot_size (a m b s : Nat) (d : Array α) : (symRot a m b s d).size = d.size := by
  unfold symRot; split
  · exact rotL_size _ _ _ _ _ (Nat.le_refl _)
  · rfl
theorem symM_size (lt : α → α → Bool) : ∀ (f a m b : Nat) (d : Array α), (symM lt f a m b d).size = d.size := by
  intro f
  induction f with
  | zero => intro a m b d; rfl
  | succ f ih =>
    intro a m b d
    rw [symM]
    split
    · exact shU_size _ _ _ _ rfl
    · split
      · exact shD_size _ _ _
      · dsimp only
        split <;> split <;> simp [ih, symRot_size]
theorem bs_range (p : Nat → Bool) : ∀ (c i j : Nat), j - i ≤ c → i ≤ j → i ≤ bs p i j ∧ bs p i j ≤ j := by
  intro c
  induction c with
  | zero => intro i j h hij; rw [bs_stop p i j (by omega)]; omega
  | succ c ih =>
    intro i j h hij
    by_cases hl : i < j
    · cases hp : p ((i + j) / 2) with
      | true =>
        rw [bs_go_yes p i j hl hp]
        have := ih ((i + j) / 2 + 1) j (by omega) (by omega)
        omega
      | false =>
        rw [bs_go_no p i j hl hp]
        have := ih i ((i + j) / 2) (by omega) (by omega)
        omega
    · rw [bs_stop p i j hl]; omega
theorem insInner_size (lt : α → α → Bool) (a : Nat) : ∀ (j : Nat) (d : Array α), (insInner lt a j d).size = d.size := by
  intro j
  induction j with
  | zero => intro d; rfl
  | succ j ih => intro d; rw [insInner]; split <;> simp [ih, size_swp]
theorem insOuter_size (lt : α → α → Bool) (a b : Nat) : ∀ (c i : Nat) (d : Array α), b - i = c → (insOuter lt a b i d).size = d.size := by
  intro c
  induction c with
  | zero => intro i d h; rw [insOuter, if_neg (by omega)]
  | succ c ih => intro i d h; rw [insOuter, if_pos (by omega), ih (i + 1) _ (by omega), insInner_size]
theorem insertionSort_size (lt : α → α → Bool) (d : Array α) (a b : Nat) : (insertionSort lt d a b).size = d.size := insOuter_size lt a b _ _ d rfl
theorem symM_rec (lt : α → α → Bool) (f a m b : Nat) (d : Array α) (h1 : m - a ≠ 1) (h2 : b - m ≠ 1) (mid s : Nat) (hmid : (a + b) / 2 = mid) (hs : symStart lt a m b d = s) (d1 d2 : Array α)
    (hd1 : d1 = symRot a m b s d) (hd2 : d2 = if a < s ∧ s < mid then symM lt f a s mid d1 else d1) :
    symM lt (f + 1) a m b d = if mid < mid + m - s ∧ mid + m - s < b then symM lt f mid (mid + m - s) b d2 else d2 := by
  rw [symM, if_neg h1, if_neg h2]
  dsimp only
  rw [hs, hmid, ← hd1, ← hd2]
end Go.Proofs.YtflbmccjfnkflaaDoor.StableSort
