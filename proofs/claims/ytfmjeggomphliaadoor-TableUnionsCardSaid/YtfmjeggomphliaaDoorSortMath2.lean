/- The plain law of the library's stable sort, more: halves merged in place. No program in sight. -/
import Derived.Test.YtfmjeggomphliaaDoorSortMath
set_option linter.unusedVariables false
namespace Go.Proofs.YtfmjeggomphliaaDoor.St

section
variable {α : Type} (d : α) (c : α → α → Bool)
/-! ### One thing put into a rising row -/
/-- The thing at a is t places further on. -/
def ShR (a t : Nat) (f : Nat → α) (k : Nat) : α := if a ≤ k ∧ k < a + t then f (k + 1) else if k = a + t then f a else f k
theorem shR_zero (a : Nat) (f : Nat → α) (k : Nat) : f k = ShR a 0 f k := by
  unfold ShR
  rw [if_neg (by omega)]
  by_cases h : k = a + 0
  · rw [if_pos h]; congr 1
  · rw [if_neg h]
theorem shR_step {xs : List α} {a t : Nat} {f : Nat → α} (hb : a + t + 1 < xs.length) (h : ∀ k, gt d xs k = ShR a t f k) : ∀ k, gt d (sw d xs (a + t) (a + t + 1)) k = ShR a (t + 1) f k := by
  intro k
  rw [sw_gt d (by omega) (by omega), h, h, h]
  unfold ShR
  by_cases h1 : k = a + t + 1
  · rw [if_pos h1, if_neg (by omega), if_pos rfl, if_neg (by omega), if_pos (by omega)]
  rw [if_neg h1]
  by_cases h2 : k = a + t
  · rw [if_pos h2, if_neg (by omega), if_neg (by omega), if_pos (by omega)]
    congr 1; omega
  rw [if_neg h2]
  by_cases h3 : a ≤ k ∧ k < a + t
  · rw [if_pos h3, if_pos (by omega)]
  · rw [if_neg h3, if_neg h2, if_neg (by omega), if_neg (by omega)]
/-- The thing at m is t places further ahead. -/
def ShL (m t : Nat) (f : Nat → α) (k : Nat) : α := if m < k + t ∧ k ≤ m then f (k - 1) else if k + t = m then f m else f k
theorem shL_zero (m : Nat) (f : Nat → α) (k : Nat) : f k = ShL m 0 f k := by
  unfold ShL
  rw [if_neg (by omega)]
  by_cases h : k + 0 = m
  · rw [if_pos h]; congr 1
  · rw [if_neg h]
theorem shL_step {xs : List α} {m t : Nat} {f : Nat → α} (hb : m < xs.length) (ht : t < m) (h : ∀ k, gt d xs k = ShL m t f k) : ∀ k, gt d (sw d xs (m - t) (m - t - 1)) k = ShL m (t + 1) f k := by
  intro k
  rw [sw_gt d (by omega) (by omega), h, h, h]
  unfold ShL
  by_cases h1 : k = m - t - 1
  · rw [if_pos h1, if_neg (by omega), if_pos (by omega), if_neg (by omega), if_pos (by omega)]
  rw [if_neg h1]
  by_cases h2 : k = m - t
  · rw [if_pos h2, if_neg (by omega), if_neg (by omega), if_pos (by omega)]
    congr 1; omega
  rw [if_neg h2]
  by_cases h3 : m < k + t ∧ k ≤ m
  · rw [if_pos h3, if_pos (by omega)]
  · rw [if_neg h3, if_neg (by omega), if_neg (by omega), if_neg (by omega)]
/-- Behind a search: the things from m to i stand ahead of the one at a, those from j on don't. -/
def SrR (xs : List α) (a m b i j : Nat) : Prop := (∀ k, m ≤ k → k < i → c (gt d xs k) (gt d xs a) = true) ∧ (∀ k, j ≤ k → k < b → c (gt d xs k) (gt d xs a) = false)
theorem lt_of_le_lt {S : α → Prop} (o : Ord c S) {x y z : α} (hx : S x) (hy : S y) (hz : S z) (h1 : le c x y) (h2 : c y z = true) : c x z = true := by
  cases h : c x z with
  | true => rfl
  | false =>
    have := o.tr z x y hz hx hy h h1
    unfold le at this
    rw [this] at h2; cases h2
theorem lt_of_lt_le {S : α → Prop} (o : Ord c S) {x y z : α} (hx : S x) (hy : S y) (hz : S z) (h1 : c x y = true) (h2 : le c y z) : c x z = true := by
  cases h : c x z with
  | true => rfl
  | false =>
    have := o.tr y z x hy hz hx h2 h
    unfold le at this
    rw [this] at h1; cases h1
theorem SrR.yes {S : α → Prop} (o : Ord c S) {xs : List α} {a m b i j h : Nat} (hS : ∀ k, a ≤ k → k < b → S (gt d xs k)) (hu : Up d c xs m b) (ham : a < m) (hs : SrR d c xs a m b i j) (h1 : i ≤ h) (h2 : h < b) (hm : m ≤ i) (hc : c (gt d xs h) (gt d xs a) = true) : SrR d c xs a m b (h + 1) j :=
  ⟨fun k g1 g2 => lt_of_le_lt c o (hS k (by omega) (by omega)) (hS h (by omega) h2) (hS a (by omega) (by omega)) (hu k h g1 (by omega) h2) hc, hs.2⟩
theorem SrR.no {S : α → Prop} (o : Ord c S) {xs : List α} {a m b i j h : Nat} (hS : ∀ k, a ≤ k → k < b → S (gt d xs k)) (hu : Up d c xs m b) (ham : a < m) (hs : SrR d c xs a m b i j) (h1 : i ≤ h) (h2 : h < b) (hm : m ≤ i) (hc : c (gt d xs h) (gt d xs a) = false) : SrR d c xs a m b i h :=
  ⟨hs.1, fun k g1 g2 => o.tr _ _ _ (hS a (by omega) (by omega)) (hS h (by omega) h2) (hS k (by omega) g2) hc (hu h k (by omega) g1 g2)⟩
theorem merge_right {S : α → Prop} (o : Ord c S) {xs ys : List α} {a b i : Nat} (hS : ∀ k, a ≤ k → k < b → S (gt d xs k)) (hu : Up d c xs (a + 1) b) (hs : SrR d c xs a (a + 1) b i i) (h1 : a + 1 ≤ i) (h2 : i ≤ b) (hy : ∀ k, gt d ys k = ShR a (i - 1 - a) (gt d xs) k) : Up d c ys a b := by
  have hr := fun (x : α) (h : S x) => o.rfl' c h
  intro p q g1 g2 g3
  rw [hy p, hy q]
  unfold ShR
  by_cases p1 : a ≤ p ∧ p < a + (i - 1 - a)
  · rw [if_pos p1]
    by_cases q1 : a ≤ q ∧ q < a + (i - 1 - a)
    · rw [if_pos q1]; exact hu (p + 1) (q + 1) (by omega) (by omega) (by omega)
    rw [if_neg q1]
    by_cases q2 : q = a + (i - 1 - a)
    · rw [if_pos q2]
      exact o.asy _ _ (hS _ (by omega) (by omega)) (hS a (by omega) (by omega)) (hs.1 (p + 1) (by omega) (by omega))
    · rw [if_neg q2]; exact hu (p + 1) q (by omega) (by omega) g3
  rw [if_neg p1]
  by_cases p2 : p = a + (i - 1 - a)
  · rw [if_pos p2, if_neg (by omega)]
    by_cases q2 : q = a + (i - 1 - a)
    · rw [if_pos q2]; exact hr _ (hS a (by omega) (by omega))
    · rw [if_neg q2]; exact hs.2 q (by omega) g3
  · rw [if_neg p2, if_neg (by omega), if_neg (by omega)]
    exact hu p q (by omega) g2 g3
def SrL (xs : List α) (a m i j : Nat) : Prop := (∀ k, a ≤ k → k < i → c (gt d xs m) (gt d xs k) = false) ∧ (∀ k, j ≤ k → k < m → c (gt d xs m) (gt d xs k) = true)
theorem SrL.no {S : α → Prop} (o : Ord c S) {xs : List α} {a m i j h : Nat} (hS : ∀ k, a ≤ k → k ≤ m → S (gt d xs k)) (hu : Up d c xs a m) (hs : SrL d c xs a m i j) (h1 : i ≤ h) (h2 : h < m) (ha : a ≤ i) (hc : c (gt d xs m) (gt d xs h) = false) : SrL d c xs a m (h + 1) j :=
  ⟨fun k g1 g2 => o.tr _ _ _ (hS k g1 (by omega)) (hS h (by omega) (by omega)) (hS m (by omega) (by omega)) (hu k h g1 (by omega) h2) hc, hs.2⟩
theorem SrL.yes {S : α → Prop} (o : Ord c S) {xs : List α} {a m i j h : Nat} (hS : ∀ k, a ≤ k → k ≤ m → S (gt d xs k)) (hu : Up d c xs a m) (hs : SrL d c xs a m i j) (h1 : i ≤ h) (h2 : h < m) (ha : a ≤ i) (hc : c (gt d xs m) (gt d xs h) = true) : SrL d c xs a m i h :=
  ⟨hs.1, fun k g1 g2 => lt_of_lt_le c o (hS m (by omega) (by omega)) (hS h (by omega) (by omega)) (hS k (by omega) (by omega)) hc (hu h k (by omega) g1 g2)⟩
theorem merge_left {S : α → Prop} (o : Ord c S) {xs ys : List α} {a m i : Nat} (hS : ∀ k, a ≤ k → k ≤ m → S (gt d xs k)) (hu : Up d c xs a m) (hs : SrL d c xs a m i i) (h1 : a ≤ i) (h2 : i ≤ m) (hy : ∀ k, gt d ys k = ShL m (m - i) (gt d xs) k) : Up d c ys a (m + 1) := by
  have hr := fun (x : α) (h : S x) => o.rfl' c h
  intro p q g1 g2 g3
  rw [hy p, hy q]
  unfold ShL
  by_cases p1 : m < p + (m - i) ∧ p ≤ m
  · rw [if_pos p1, if_pos (by omega)]
    exact hu (p - 1) (q - 1) (by omega) (by omega) (by omega)
  rw [if_neg p1]
  by_cases p2 : p + (m - i) = m
  · rw [if_pos p2]
    by_cases q1 : m < q + (m - i) ∧ q ≤ m
    · rw [if_pos q1]
      exact o.asy _ _ (hS m (by omega) (by omega)) (hS _ (by omega) (by omega)) (hs.2 (q - 1) (by omega) (by omega))
    · rw [if_neg q1, if_pos (by omega)]
      exact hr _ (hS m (by omega) (by omega))
  · rw [if_neg p2]
    by_cases q1 : m < q + (m - i) ∧ q ≤ m
    · rw [if_pos q1]; exact hu p (q - 1) g1 (by omega) (by omega)
    rw [if_neg q1]
    by_cases q2 : q + (m - i) = m
    · rw [if_pos q2]; exact hs.1 p g1 (by omega)
    · rw [if_neg q2]; exact hu p q g1 g2 (by omega)
/-! ### Two halves -/
/-- Behind a search over both halves. -/
def SrM (xs : List α) (p s0 r0 i r : Nat) : Prop := (s0 < i → c (gt d xs (p - (i - 1))) (gt d xs (i - 1)) = false) ∧ (r < r0 → c (gt d xs (p - r)) (gt d xs r) = true)
theorem rot_id {s m e : Nat} (h : s = m ∨ m = e) (hse : s ≤ m) (hme : m ≤ e) (f : Nat → α) (k : Nat) : f k = Rot s m e f k := by
  unfold Rot
  by_cases h1 : s ≤ k ∧ k < s + (e - m)
  · rw [if_pos h1]; congr 1; omega
  rw [if_neg h1]
  by_cases h2 : s + (e - m) ≤ k ∧ k < e
  · rw [if_pos h2]; congr 1; omega
  · rw [if_neg h2]
/-- What the two halves are behind the exchange: each a rising row and another one, and all of the first ahead of all of the second. -/
theorem rot_parts {S : α → Prop} (o : Ord c S) {xs ys : List α} {a m b mid s e : Nat} (hS : ∀ k, a ≤ k → k < b → S (gt d xs k)) (hu1 : Up d c xs a m) (hu2 : Up d c xs m b)
    (h1 : a ≤ s) (h2 : s ≤ m) (h3 : m ≤ e) (h4 : e ≤ b) (h5 : e - m = mid - s) (h6 : s ≤ mid) (hq1 : a < s → e < b → c (gt d xs e) (gt d xs (s - 1)) = false) (hq2 : s < m → m < e → c (gt d xs (e - 1)) (gt d xs s) = true)
    (hy : ∀ k, gt d ys k = Rot s m e (gt d xs) k) :
    Up d c ys a s ∧ Up d c ys s mid ∧ Up d c ys mid e ∧ Up d c ys e b ∧ ∀ p q, a ≤ p → p < mid → mid ≤ q → q < b → le c (gt d ys p) (gt d ys q) := by
  have y1 : ∀ k, k < s → gt d ys k = gt d xs k := fun k hk => by rw [hy]; unfold Rot; rw [if_neg (by omega), if_neg (by omega)]
  have y2 : ∀ k, s ≤ k → k < mid → gt d ys k = gt d xs (m + (k - s)) := fun k g1 g2 => by rw [hy]; unfold Rot; rw [if_pos (by omega)]
  have y3 : ∀ k, mid ≤ k → k < e → gt d ys k = gt d xs (s + (k - mid)) := fun k g1 g2 => by rw [hy]; unfold Rot; rw [if_neg (by omega), if_pos (by omega)]; congr 1; omega
  have y4 : ∀ k, e ≤ k → gt d ys k = gt d xs k := fun k hk => by rw [hy]; unfold Rot; rw [if_neg (by omega), if_neg (by omega)]
  refine ⟨fun i j g1 g2 g3 => ?_, fun i j g1 g2 g3 => ?_, fun i j g1 g2 g3 => ?_, fun i j g1 g2 g3 => ?_, fun p q g1 g2 g3 g4 => ?_⟩
  · rw [y1 i (by omega), y1 j g3]; exact hu1 i j g1 g2 (by omega)
  · rw [y2 i g1 (by omega), y2 j (by omega) g3]; exact hu2 _ _ (by omega) (by omega) (by omega)
  · rw [y3 i g1 (by omega), y3 j (by omega) g3]; exact hu1 _ _ (by omega) (by omega) (by omega)
  · rw [y4 i g1, y4 j (by omega)]; exact hu2 i j (by omega) g2 g3
  · by_cases hp : p < s
    · rw [y1 p hp]
      by_cases hq : q < e
      · rw [y3 q g3 hq]; exact hu1 p _ g1 (by omega) (by omega)
      · rw [y4 q (by omega)]
        have e1 := hq1 (by omega) (by omega)
        have e2 := hu1 p (s - 1) g1 (by omega) (by omega)
        have e3 := hu2 e q (by omega) (by omega) g4
        exact o.tr _ _ _ (hS p g1 (by omega)) (hS e (by omega) (by omega)) (hS q (by omega) g4) (o.tr _ _ _ (hS p g1 (by omega)) (hS (s - 1) (by omega) (by omega)) (hS e (by omega) (by omega)) e2 e1) e3
    · rw [y2 p (by omega) g2]
      by_cases hq : q < e
      · rw [y3 q g3 hq]
        have e1 := o.asy _ _ (hS (e - 1) (by omega) (by omega)) (hS s (by omega) (by omega)) (hq2 (by omega) (by omega))
        have e2 := hu2 (m + (p - s)) (e - 1) (by omega) (by omega) (by omega)
        have e3 := hu1 s (s + (q - mid)) (by omega) (by omega) (by omega)
        exact o.tr _ _ _ (hS _ (by omega) (by omega)) (hS s (by omega) (by omega)) (hS _ (by omega) (by omega)) (o.tr _ _ _ (hS _ (by omega) (by omega)) (hS (e - 1) (by omega) (by omega)) (hS s (by omega) (by omega)) e2 e1) e3
      · rw [y4 q (by omega)]; exact hu2 _ q (by omega) (by omega) g4
/-- Two rising rows, all of the first ahead of all of the second. -/
theorem Up.join {xs : List α} {a m b : Nat} (h1 : Up d c xs a m) (h2 : Up d c xs m b) (h : ∀ p q, a ≤ p → p < m → m ≤ q → q < b → le c (gt d xs p) (gt d xs q)) : Up d c xs a b := by
  intro i j g1 g2 g3
  by_cases hj : j < m
  · exact h1 i j g1 g2 hj
  by_cases hi : i < m
  · exact h i j g1 hi (by omega) g3
  · exact h2 i j (by omega) g2 g3
/-- All of the first part stays ahead of all of the second, each turned in itself. -/
theorem cross_put {xs ys zs : List α} {a m b : Nat} (hl : b ≤ xs.length) (ham : a ≤ m) (hmb : m ≤ b) (p1 : Put d xs ys a m) (p2 : Put d ys zs m b) (h : ∀ p q, a ≤ p → p < m → m ≤ q → q < b → le c (gt d xs p) (gt d xs q)) : ∀ p q, a ≤ p → p < m → m ≤ q → q < b → le c (gt d zs p) (gt d zs q) := by
  intro p q g1 g2 g3 g4
  rw [p2.out p (.inl g2)]
  obtain ⟨p', a1, a2, e1⟩ := p1.mem d (by omega) p g1 g2
  obtain ⟨q', b1, b2, e2⟩ := p2.mem d (by rw [p1.len]; omega) q g3 g4
  rw [e1, e2, p1.out q' (.inr b1)]
  exact h p' q' a1 a2 b1 b2
theorem Put.all {S : α → Prop} {xs ys : List α} {a b : Nat} (h : Put d xs ys a b) (hS : ∀ k, k < xs.length → S (gt d xs k)) : ∀ k, k < ys.length → S (gt d ys k) := by
  intro k hk
  have h1 : gt d ys k ∈ ys := by rw [gt_of d hk]; exact List.getElem_mem hk
  have h2 := h.perm.mem_iff.1 h1
  obtain ⟨j, hj, e⟩ := List.mem_iff_getElem.1 h2
  rw [← e, ← gt_of d hj]
  exact hS j hj
/-! ### Blocks -/
/-- Blocks of a size, each rising. -/
def Blocks (xs : List α) (B n : Nat) : Prop := ∀ t, Up d c xs (t * B) (min ((t + 1) * B) n)
theorem Blocks.whole {xs : List α} {B n : Nat} (h : Blocks d c xs B n) (hn : n ≤ B) : Up d c xs 0 n := by
  have := h 0
  rwa [Nat.zero_mul, Nat.zero_add, Nat.one_mul, Nat.min_eq_right hn] at this
/-- A sorted list is the one that has these things in order. -/
theorem up_unique {S : α → Prop} (o : Ord c S) (hanti : ∀ x y, S x → S y → le c x y → le c y x → x = y) {xs ys : List α} (hp : ys.Perm xs) (hS : ∀ k, k < xs.length → S (gt d xs k)) (h1 : Up d c xs 0 xs.length) (h2 : Up d c ys 0 ys.length) : ys = xs := by
  have pw : ∀ zs : List α, Up d c zs 0 zs.length → zs.Pairwise (le c) := by
    intro zs h
    rw [List.pairwise_iff_getElem]
    intro i j hi hj hij
    have := h i j (by omega) (by omega) hj
    rwa [gt_of d hi, gt_of d hj] at this
  have hm : ∀ x ∈ xs, S x := fun x hx => by
    obtain ⟨j, hj, e⟩ := List.mem_iff_getElem.1 hx
    rw [← e, ← gt_of d hj]; exact hS j hj
  exact List.Perm.eq_of_pairwise (fun x y hx hy h1 h2 => hanti x y (hm x (hp.mem_iff.1 hx)) (hm y hy) h1 h2) (pw ys h2) (pw xs h1) hp
end
end Go.Proofs.YtfmjeggomphliaaDoor.St
