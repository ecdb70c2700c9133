/- The plain law of the library's stable sort: swaps, blocks exchanged, halves merged in place. No program in sight. -/

set_option linter.unusedVariables false
namespace Go.Proofs.YtfmjeggomphliaaGreatDoor.St

section
variable {α : Type} (d : α)
/-- What stands at a place. -/
def gt (xs : List α) (i : Nat) : α := xs.getD i d
/-- Two places exchanged. -/
def sw (xs : List α) (i j : Nat) : List α := (xs.set i (gt d xs j)).set j (gt d xs i)
theorem sw_len (xs : List α) (i j : Nat) : (sw d xs i j).length = xs.length := by simp [sw]
theorem gt_of {xs : List α} {i : Nat} (h : i < xs.length) : gt d xs i = xs[i] := by simp [gt, List.getD, h]
theorem sw_gt {xs : List α} {i j : Nat} (hi : i < xs.length) (hj : j < xs.length) (k : Nat) : gt d (sw d xs i j) k = if k = j then gt d xs i else if k = i then gt d xs j else gt d xs k := by
  unfold sw
  by_cases h : k < xs.length
  · rw [gt_of d (by simp; exact h)]
    rw [List.getElem_set]
    by_cases h1 : j = k
    · subst h1; rw [if_pos rfl, if_pos rfl]
    rw [if_neg h1, if_neg (Ne.symm h1), List.getElem_set]
    by_cases h2 : i = k
    · subst h2; rw [if_pos rfl, if_pos rfl]
    rw [if_neg h2, if_neg (Ne.symm h2), gt_of d h]
  · rw [if_neg (by omega), if_neg (by omega)]
    unfold gt
    show (((xs.set i _).set j _)[k]?).getD d = (xs[k]?).getD d
    rw [List.getElem?_eq_none (by simp; omega), List.getElem?_eq_none (by omega)]
theorem sw_perm {xs : List α} {i j : Nat} (hi : i < xs.length) (hj : j < xs.length) : (sw d xs i j).Perm xs := by
  unfold sw
  rw [gt_of d hi, gt_of d hj]
  exact List.set_set_perm hi hj
/-- Two lists of one length that are the same at all places. -/
theorem gt_ext {xs ys : List α} (hl : xs.length = ys.length) (h : ∀ k, k < xs.length → gt d xs k = gt d ys k) : xs = ys := by
  apply List.ext_getElem hl
  intro i h1 h2
  have := h i h1
  rwa [gt_of d h1, gt_of d h2] at this

/-! ### The order -/
variable (c : α → α → Bool)
/-- Behind or beside. -/
def le (x y : α) : Prop := c y x = false
/-- A strict weak order on the things of a list. -/
structure Ord (S : α → Prop) : Prop where
  tr : ∀ x y z, S x → S y → S z → le c x y → le c y z → le c x z
  tot : ∀ x y, S x → S y → le c x y ∨ le c y x
  asy : ∀ x y, S x → S y → c x y = true → c y x = false
/-- Rising from a place to a place. -/
def Up (xs : List α) (a b : Nat) : Prop := ∀ i j, a ≤ i → i ≤ j → j < b → le c (gt d xs i) (gt d xs j)
theorem Ord.rfl' {S : α → Prop} (o : Ord c S) {x : α} (h : S x) : le c x x := (o.tot x x h h).elim id id
theorem Up.one {S : α → Prop} (o : Ord c S) {xs : List α} {a b : Nat} (hS : ∀ i, a ≤ i → i < b → S (gt d xs i)) (h : b ≤ a + 1) : Up d c xs a b := fun i j h1 h2 h3 => by
  obtain rfl : i = j := by omega
  exact o.rfl' c (hS i h1 h3)
theorem Up.sub {xs : List α} {a b a' b' : Nat} (h : Up d c xs a b) (h1 : a ≤ a') (h2 : b' ≤ b) : Up d c xs a' b' := fun i j g1 g2 g3 => h i j (by omega) g2 (by omega)
theorem Up.congr {xs ys : List α} {a b : Nat} (h : Up d c xs a b) (e : ∀ k, a ≤ k → k < b → gt d ys k = gt d xs k) : Up d c ys a b := fun i j g1 g2 g3 => by
  rw [e i (by omega) (by omega), e j (by omega) (by omega)]
  exact h i j g1 g2 g3
/-- Only what stands from a place to a place has been put in other places. -/
structure Put (xs ys : List α) (a b : Nat) : Prop where
  perm : ys.Perm xs
  out : ∀ k, k < a ∨ b ≤ k → gt d ys k = gt d xs k
theorem Put.refl (xs : List α) (a b : Nat) : Put d xs xs a b := ⟨List.Perm.refl _, fun _ _ => rfl⟩
theorem Put.trans {xs ys zs : List α} {a b : Nat} (h : Put d xs ys a b) (h' : Put d ys zs a b) : Put d xs zs a b := ⟨h'.perm.trans h.perm, fun k hk => (h'.out k hk).trans (h.out k hk)⟩
theorem Put.mono {xs ys : List α} {a b a' b' : Nat} (h : Put d xs ys a b) (h1 : a' ≤ a) (h2 : b ≤ b') : Put d xs ys a' b' := ⟨h.perm, fun k hk => h.out k (by omega)⟩
theorem Put.len {xs ys : List α} {a b : Nat} (h : Put d xs ys a b) : ys.length = xs.length := h.perm.length_eq
theorem Put.sw {xs : List α} {a b i j : Nat} (hi : i < xs.length) (hj : j < xs.length) (h1 : a ≤ i) (h2 : i < b) (h3 : a ≤ j) (h4 : j < b) : Put d xs (St.sw d xs i j) a b :=
  ⟨sw_perm d hi hj, fun k hk => by rw [sw_gt d hi hj, if_neg (by omega), if_neg (by omega)]⟩
/-- What stands in the part that was turned stood in it. -/
theorem Put.mem {xs ys : List α} {a b : Nat} (h : Put d xs ys a b) (hb : b ≤ xs.length) : ∀ k, a ≤ k → k < b → ∃ j, a ≤ j ∧ j < b ∧ gt d ys k = gt d xs j := by
  intro k h1 h2
  have hl := h.len
  -- the parts ahead of a and behind b are the same: so is, as a heap, what is between
  have e1 : ys.take a = xs.take a := by
    apply gt_ext d (by simp [hl])
    intro i hi
    simp only [List.length_take] at hi
    have := h.out i (.inl (by omega))
    rw [gt_of d (by omega), gt_of d (by omega)] at this
    rw [gt_of d (by simp; omega), gt_of d (by simp; omega), List.getElem_take, List.getElem_take]
    exact this
  have e2 : ys.drop b = xs.drop b := by
    apply gt_ext d (by simp [hl])
    intro i hi
    simp only [List.length_drop] at hi
    have := h.out (b + i) (.inr (by omega))
    rw [gt_of d (by omega), gt_of d (by omega)] at this
    rw [gt_of d (by simp; omega), gt_of d (by simp; omega), List.getElem_drop, List.getElem_drop]
    exact this
  have p1 : ys = ys.take a ++ ((ys.drop a).take (b - a) ++ ys.drop b) := by
    conv => lhs; rw [← List.take_append_drop a ys, ← List.take_append_drop (b - a) (ys.drop a)]
    rw [List.drop_drop, show a + (b - a) = b by omega]
  have p2 : xs = xs.take a ++ ((xs.drop a).take (b - a) ++ xs.drop b) := by
    conv => lhs; rw [← List.take_append_drop a xs, ← List.take_append_drop (b - a) (xs.drop a)]
    rw [List.drop_drop, show a + (b - a) = b by omega]
  have hp := h.perm
  rw [p1, p2, e1, e2] at hp
  have hp2 := (List.perm_append_right_iff _).1 ((List.perm_append_left_iff _).1 hp)
  have hk : gt d ys k ∈ (ys.drop a).take (b - a) := by
    rw [gt_of d (by omega), List.mem_iff_getElem]
    refine ⟨k - a, by simp; omega, ?_⟩
    rw [List.getElem_take, List.getElem_drop]
    congr 1
    omega
  have := hp2.mem_iff.1 hk
  rw [List.mem_iff_getElem] at this
  obtain ⟨j, hj, e⟩ := this
  simp only [List.length_take, List.length_drop] at hj
  refine ⟨a + j, by omega, by omega, ?_⟩
  rw [← e, List.getElem_take, List.getElem_drop, gt_of d (by omega)]

/-! ### Insertion -/
/-- In the midst of an insertion: all but the one at j stand right, and it stands ahead of those behind it. -/
structure Ins (xs : List α) (a i j : Nat) : Prop where
  lej : j ≤ i
  gej : a ≤ j
  oth : ∀ p q, a ≤ p → p < q → q ≤ i → p ≠ j → q ≠ j → le c (gt d xs p) (gt d xs q)
  hd : ∀ q, j < q → q ≤ i → le c (gt d xs j) (gt d xs q)
theorem Ins.start {xs : List α} {a i : Nat} (h : Up d c xs a i) (ha : a ≤ i) : Ins d c xs a i i :=
  ⟨Nat.le_refl _, ha, fun p q h1 h2 h3 h4 h5 => h p q h1 (by omega) (by omega), fun q h1 h2 => by omega⟩
theorem Ins.step {S : α → Prop} (o : Ord c S) {xs : List α} {a i j : Nat} (h : Ins d c xs a i j) (hj : a < j) (hi : i < xs.length) (hS : ∀ k, k ≤ i → S (gt d xs k)) (hc : c (gt d xs j) (gt d xs (j - 1)) = true) : Ins d c (sw d xs j (j - 1)) a i (j - 1) := by
  have hl := h.lej
  have e := fun k => sw_gt d (xs := xs) (i := j) (j := j - 1) (by omega) (by omega) k
  have hle : le c (gt d xs j) (gt d xs (j - 1)) := o.asy _ _ (hS j (by omega)) (hS (j - 1) (by omega)) hc
  refine ⟨by omega, by omega, fun p q h1 h2 h3 h4 h5 => ?_, fun q h1 h2 => ?_⟩
  · rw [e p, e q]
    rw [if_neg h4, if_neg h5]
    by_cases hpj : p = j
    · rw [if_pos hpj, if_neg (by omega)]
      exact h.oth (j - 1) q (by omega) (by omega) h3 (by omega) (by omega)
    · rw [if_neg hpj]
      by_cases hqj : q = j
      · rw [if_pos hqj]
        exact h.oth p (j - 1) h1 (by omega) (by omega) hpj (by omega)
      · rw [if_neg hqj]
        exact h.oth p q h1 h2 h3 hpj hqj
  · rw [e (j - 1), e q, if_pos rfl, if_neg (by omega)]
    by_cases hqj : q = j
    · rw [if_pos hqj]; exact hle
    · rw [if_neg hqj]; exact h.hd q (by omega) h2
theorem Ins.stop {S : α → Prop} (o : Ord c S) {xs : List α} {a i j : Nat} (h : Ins d c xs a i j) (hS : ∀ k, k ≤ i → S (gt d xs k)) (hc : j = a ∨ (a < j ∧ c (gt d xs j) (gt d xs (j - 1)) = false)) : Up d c xs a (i + 1) := by
  have hl := h.lej
  intro p q h1 h2 h3
  by_cases hpq : p = q
  · subst hpq; exact o.rfl' c (hS p (by omega))
  by_cases hpj : p = j
  · subst hpj; exact h.hd q (by omega) (by omega)
  by_cases hqj : q = j
  · subst hqj
    rcases hc with rfl | ⟨hc1, hc2⟩
    · omega
    · by_cases hp1 : p = q - 1
      · subst hp1; exact hc2
      · exact o.tr _ _ _ (hS p (by omega)) (hS (q - 1) (by omega)) (hS q (by omega)) (h.oth p (q - 1) h1 (by omega) (by omega) hpj (by omega)) hc2
  · exact h.oth p q h1 (by omega) (by omega) hpj hqj

/-! ### Blocks exchanged -/
/-- n places from a on exchanged with those from b on. -/
def Swr (a b n : Nat) (f : Nat → α) (k : Nat) : α := if a ≤ k ∧ k < a + n then f (b + (k - a)) else if b ≤ k ∧ k < b + n then f (a + (k - b)) else f k
theorem swr_step {xs : List α} {a b i : Nat} {f : Nat → α} (hab : a + i < b) (hb : b + i < xs.length) (h : ∀ k, gt d xs k = Swr a b i f k) : ∀ k, gt d (sw d xs (a + i) (b + i)) k = Swr a b (i + 1) f k := by
  intro k
  rw [sw_gt d (by omega) (by omega), h, h, h]
  unfold Swr
  by_cases h1 : k = b + i
  · subst h1
    rw [if_pos rfl, if_neg (by omega), if_neg (by omega), if_neg (by omega), if_pos (by omega)]
    congr 1; omega
  rw [if_neg h1]
  by_cases h2 : k = a + i
  · subst h2
    rw [if_pos rfl, if_neg (by omega), if_neg (by omega), if_pos (by omega)]
    congr 1; omega
  rw [if_neg h2]
  by_cases h3 : a ≤ k ∧ k < a + i
  · rw [if_pos h3, if_pos (by omega)]
  rw [if_neg h3]
  by_cases h4 : b ≤ k ∧ k < b + i
  · rw [if_pos h4, if_neg (by omega), if_pos (by omega)]
  rw [if_neg h4, if_neg (by omega), if_neg (by omega)]
/-- The places from s to m, and from m to e: the latter ahead of the former. -/
def Rot (s m e : Nat) (f : Nat → α) (k : Nat) : α := if s ≤ k ∧ k < s + (e - m) then f (m + (k - s)) else if s + (e - m) ≤ k ∧ k < e then f (s + (k - (s + (e - m)))) else f k
theorem rot_gt {m i j : Nat} (hij : j < i) (him : i ≤ m) (f : Nat → α) (k : Nat) : Rot (m - (i - j)) m (m + j) (Swr (m - i) m j f) k = Rot (m - i) m (m + j) f k := by
  unfold Rot Swr
  by_cases h1 : m - i ≤ k ∧ k < m - i + (m + j - m)
  · rw [if_pos h1, if_neg (by omega), if_neg (by omega), if_pos (by omega)]
  rw [if_neg h1]
  by_cases h2 : m - i + (m + j - m) ≤ k ∧ k < m + j
  · rw [if_pos h2]
    by_cases h3 : m - (i - j) ≤ k ∧ k < m - (i - j) + (m + j - m)
    · rw [if_pos h3, if_neg (by omega), if_pos (by omega)]
      congr 1; omega
    · rw [if_neg h3, if_pos (by omega)]
      by_cases h4 : m - i ≤ m - (i - j) + (k - (m - (i - j) + (m + j - m))) ∧ m - (i - j) + (k - (m - (i - j) + (m + j - m))) < m - i + j
      · omega
      · rw [if_neg h4, if_neg (by omega)]
        congr 1; omega
  · rw [if_neg h2, if_neg (by omega), if_neg (by omega), if_neg (by omega), if_neg (by omega)]
theorem rot_lt {m i j : Nat} (hij : i < j) (him : i ≤ m) (f : Nat → α) (k : Nat) : Rot (m - i) m (m + (j - i)) (Swr (m - i) (m + j - i) i f) k = Rot (m - i) m (m + j) f k := by
  unfold Rot Swr
  by_cases h1 : m - i ≤ k ∧ k < m - i + (m + j - m)
  · rw [if_pos h1]
    by_cases h3 : m - i ≤ k ∧ k < m - i + (m + (j - i) - m)
    · rw [if_pos h3, if_neg (by omega), if_neg (by omega)]
    · rw [if_neg h3]
      by_cases h4 : m - i + (m + (j - i) - m) ≤ k ∧ k < m + (j - i)
      · rw [if_pos h4, if_pos (by omega)]
        congr 1; omega
      · omega
  rw [if_neg h1]
  by_cases h2 : m - i + (m + j - m) ≤ k ∧ k < m + j
  · rw [if_pos h2, if_neg (by omega), if_neg (by omega), if_neg (by omega), if_pos (by omega)]
    congr 1; omega
  · rw [if_neg h2, if_neg (by omega), if_neg (by omega), if_neg (by omega), if_neg (by omega)]
theorem rot_eq {m i : Nat} (him : i ≤ m) (f : Nat → α) (k : Nat) : Swr (m - i) m i f k = Rot (m - i) m (m + i) f k := by
  unfold Rot Swr
  by_cases h1 : m - i ≤ k ∧ k < m - i + i
  · rw [if_pos h1, if_pos (by omega)]
  rw [if_neg h1]
  by_cases h2 : m ≤ k ∧ k < m + i
  · rw [if_pos h2, if_neg (by omega), if_pos (by omega)]
    congr 1; omega
  · rw [if_neg h2, if_neg (by omega), if_neg (by omega)]
end
end Go.Proofs.YtfmjeggomphliaaGreatDoor.St

set_option linter.unusedVariables false
namespace Go.Proofs.YtfmjeggomphliaaGreatDoor.St

section
variable {α : Type} (d : α) (c : α → α → Bool)
/-! ### One thing put into a rising row -/
/-- The thing at a is t places further on. -/
def ShR (a t : Nat) (f : Nat → α) (k : Nat) : α := if a ≤ k ∧ k < a + t then f (k + 1) else if k = a + t then f a else f k
theorem shR_zero (a : Nat) (f : Nat → α) (k : Nat) : f k = ShR a 0 f k := by
  unfold ShR
  rw [if_neg (by omega)]
  by_cases h : k = a + 0
  · rw [if_pos h]; congr 1
  · rw [if_neg h]
theorem shR_step {xs : List α} {a t : Nat} {f : Nat → α} (hb : a + t + 1 < xs.length) (h : ∀ k, gt d xs k = ShR a t f k) : ∀ k, gt d (sw d xs (a + t) (a + t + 1)) k = ShR a (t + 1) f k := by
  intro k
  rw [sw_gt d (by omega) (by omega), h, h, h]
  unfold ShR
  by_cases h1 : k = a + t + 1
  · rw [if_pos h1, if_neg (by omega), if_pos rfl, if_neg (by omega), if_pos (by omega)]
  rw [if_neg h1]
  by_cases h2 : k = a + t
  · rw [if_pos h2, if_neg (by omega), if_neg (by omega), if_pos (by omega)]
    congr 1; omega
  rw [if_neg h2]
  by_cases h3 : a ≤ k ∧ k < a + t
  · rw [if_pos h3, if_pos (by omega)]
  · rw [if_neg h3, if_neg h2, if_neg (by omega), if_neg (by omega)]
/-- The thing at m is t places further ahead. -/
def ShL (m t : Nat) (f : Nat → α) (k : Nat) : α := if m < k + t ∧ k ≤ m then f (k - 1) else if k + t = m then f m else f k
theorem shL_zero (m : Nat) (f : Nat → α) (k : Nat) : f k = ShL m 0 f k := by
  unfold ShL
  rw [if_neg (by omega)]
  by_cases h : k + 0 = m
  · rw [if_pos h]; congr 1
  · rw [if_neg h]
theorem shL_step {xs : List α} {m t : Nat} {f : Nat → α} (hb : m < xs.length) (ht : t < m) (h : ∀ k, gt d xs k = ShL m t f k) : ∀ k, gt d (sw d xs (m - t) (m - t - 1)) k = ShL m (t + 1) f k := by
  intro k
  rw [sw_gt d (by omega) (by omega), h, h, h]
  unfold ShL
  by_cases h1 : k = m - t - 1
  · rw [if_pos h1, if_neg (by omega), if_pos (by omega), if_neg (by omega), if_pos (by omega)]
  rw [if_neg h1]
  by_cases h2 : k = m - t
  · rw [if_pos h2, if_neg (by omega), if_neg (by omega), if_pos (by omega)]
    congr 1; omega
  rw [if_neg h2]
  by_cases h3 : m < k + t ∧ k ≤ m
  · rw [if_pos h3, if_pos (by omega)]
  · rw [if_neg h3, if_neg (by omega), if_neg (by omega), if_neg (by omega)]
/-- Behind a search: the things from m to i stand ahead of the one at a, those from j on don't. -/
def SrR (xs : List α) (a m b i j : Nat) : Prop := (∀ k, m ≤ k → k < i → c (gt d xs k) (gt d xs a) = true) ∧ (∀ k, j ≤ k → k < b → c (gt d xs k) (gt d xs a) = false)
theorem lt_of_le_lt {S : α → Prop} (o : Ord c S) {x y z : α} (hx : S x) (hy : S y) (hz : S z) (h1 : le c x y) (h2 : c y z = true) : c x z = true := by
  cases h : c x z with
  | true => rfl
  | false =>
    have := o.tr z x y hz hx hy h h1
    unfold le at this
    rw [this] at h2; cases h2
theorem lt_of_lt_le {S : α → Prop} (o : Ord c S) {x y z : α} (hx : S x) (hy : S y) (hz : S z) (h1 : c x y = true) (h2 : le c y z) : c x z = true := by
  cases h : c x z with
  | true => rfl
  | false =>
    have := o.tr y z x hy hz hx h2 h
    unfold le at this
    rw [this] at h1; cases h1
theorem SrR.yes {S : α → Prop} (o : Ord c S) {xs : List α} {a m b i j h : Nat} (hS : ∀ k, a ≤ k → k < b → S (gt d xs k)) (hu : Up d c xs m b) (ham : a < m) (hs : SrR d c xs a m b i j) (h1 : i ≤ h) (h2 : h < b) (hm : m ≤ i) (hc : c (gt d xs h) (gt d xs a) = true) : SrR d c xs a m b (h + 1) j :=
  ⟨fun k g1 g2 => lt_of_le_lt c o (hS k (by omega) (by omega)) (hS h (by omega) h2) (hS a (by omega) (by omega)) (hu k h g1 (by omega) h2) hc, hs.2⟩
theorem SrR.no {S : α → Prop} (o : Ord c S) {xs : List α} {a m b i j h : Nat} (hS : ∀ k, a ≤ k → k < b → S (gt d xs k)) (hu : Up d c xs m b) (ham : a < m) (hs : SrR d c xs a m b i j) (h1 : i ≤ h) (h2 : h < b) (hm : m ≤ i) (hc : c (gt d xs h) (gt d xs a) = false) : SrR d c xs a m b i h :=
  ⟨hs.1, fun k g1 g2 => o.tr _ _ _ (hS a (by omega) (by omega)) (hS h (by omega) h2) (hS k (by omega) g2) hc (hu h k (by omega) g1 g2)⟩
theorem merge_right {S : α → Prop} (o : Ord c S) {xs ys : List α} {a b i : Nat} (hS : ∀ k, a ≤ k → k < b → S (gt d xs k)) (hu : Up d c xs (a + 1) b) (hs : SrR d c xs a (a + 1) b i i) (h1 : a + 1 ≤ i) (h2 : i ≤ b) (hy : ∀ k, gt d ys k = ShR a (i - 1 - a) (gt d xs) k) : Up d c ys a b := by
  have hr := fun (x : α) (h : S x) => o.rfl' c h
  intro p q g1 g2 g3
  rw [hy p, hy q]
  unfold ShR
  by_cases p1 : a ≤ p ∧ p < a + (i - 1 - a)
  · rw [if_pos p1]
    by_cases q1 : a ≤ q ∧ q < a + (i - 1 - a)
    · rw [if_pos q1]; exact hu (p + 1) (q + 1) (by omega) (by omega) (by omega)
    rw [if_neg q1]
    by_cases q2 : q = a + (i - 1 - a)
    · rw [if_pos q2]
      exact o.asy _ _ (hS _ (by omega) (by omega)) (hS a (by omega) (by omega)) (hs.1 (p + 1) (by omega) (by omega))
    · rw [if_neg q2]; exact hu (p + 1) q (by omega) (by omega) g3
  rw [if_neg p1]
  by_cases p2 : p = a + (i - 1 - a)
  · rw [if_pos p2, if_neg (by omega)]
    by_cases q2 : q = a + (i - 1 - a)
    · rw [if_pos q2]; exact hr _ (hS a (by omega) (by omega))
    · rw [if_neg q2]; exact hs.2 q (by omega) g3
  · rw [if_neg p2, if_neg (by omega), if_neg (by omega)]
    exact hu p q (by omega) g2 g3
def SrL (xs : List α) (a m i j : Nat) : Prop := (∀ k, a ≤ k → k < i → c (gt d xs m) (gt d xs k) = false) ∧ (∀ k, j ≤ k → k < m → c (gt d xs m) (gt d xs k) = true)
theorem SrL.no {S : α → Prop} (o : Ord c S) {xs : List α} {a m i j h : Nat} (hS : ∀ k, a ≤ k → k ≤ m → S (gt d xs k)) (hu : Up d c xs a m) (hs : SrL d c xs a m i j) (h1 : i ≤ h) (h2 : h < m) (ha : a ≤ i) (hc : c (gt d xs m) (gt d xs h) = false) : SrL d c xs a m (h + 1) j :=
  ⟨fun k g1 g2 => o.tr _ _ _ (hS k g1 (by omega)) (hS h (by omega) (by omega)) (hS m (by omega) (by omega)) (hu k h g1 (by omega) h2) hc, hs.2⟩
theorem SrL.yes {S : α → Prop} (o : Ord c S) {xs : List α} {a m i j h : Nat} (hS : ∀ k, a ≤ k → k ≤ m → S (gt d xs k)) (hu : Up d c xs a m) (hs : SrL d c xs a m i j) (h1 : i ≤ h) (h2 : h < m) (ha : a ≤ i) (hc : c (gt d xs m) (gt d xs h) = true) : SrL d c xs a m i h :=
  ⟨hs.1, fun k g1 g2 => lt_of_lt_le c o (hS m (by omega) (by omega)) (hS h (by omega) (by omega)) (hS k (by omega) (by omega)) hc (hu h k (by omega) g1 g2)⟩
theorem merge_left {S : α → Prop} (o : Ord c S) {xs ys : List α} {a m i : Nat} (hS : ∀ k, a ≤ k → k ≤ m → S (gt d xs k)) (hu : Up d c xs a m) (hs : SrL d c xs a m i i) (h1 : a ≤ i) (h2 : i ≤ m) (hy : ∀ k, gt d ys k = ShL m (m - i) (gt d xs) k) : Up d c ys a (m + 1) := by
  have hr := fun (x : α) (h : S x) => o.rfl' c h
  intro p q g1 g2 g3
  rw [hy p, hy q]
  unfold ShL
  by_cases p1 : m < p + (m - i) ∧ p ≤ m
  · rw [if_pos p1, if_pos (by omega)]
    exact hu (p - 1) (q - 1) (by omega) (by omega) (by omega)
  rw [if_neg p1]
  by_cases p2 : p + (m - i) = m
  · rw [if_pos p2]
    by_cases q1 : m < q + (m - i) ∧ q ≤ m
    · rw [if_pos q1]
      exact o.asy _ _ (hS m (by omega) (by omega)) (hS _ (by omega) (by omega)) (hs.2 (q - 1) (by omega) (by omega))
    · rw [if_neg q1, if_pos (by omega)]
      exact hr _ (hS m (by omega) (by omega))
  · rw [if_neg p2]
    by_cases q1 : m < q + (m - i) ∧ q ≤ m
    · rw [if_pos q1]; exact hu p (q - 1) g1 (by omega) (by omega)
    rw [if_neg q1]
    by_cases q2 : q + (m - i) = m
    · rw [if_pos q2]; exact hs.1 p g1 (by omega)
    · rw [if_neg q2]; exact hu p q g1 g2 (by omega)
/-! ### Two halves -/
/-- Behind a search over both halves. -/
def SrM (xs : List α) (p s0 r0 i r : Nat) : Prop := (s0 < i → c (gt d xs (p - (i - 1))) (gt d xs (i - 1)) = false) ∧ (r < r0 → c (gt d xs (p - r)) (gt d xs r) = true)
theorem rot_id {s m e : Nat} (h : s = m ∨ m = e) (hse : s ≤ m) (hme : m ≤ e) (f : Nat → α) (k : Nat) : f k = Rot s m e f k := by
  unfold Rot
  by_cases h1 : s ≤ k ∧ k < s + (e - m)
  · rw [if_pos h1]; congr 1; omega
  rw [if_neg h1]
  by_cases h2 : s + (e - m) ≤ k ∧ k < e
  · rw [if_pos h2]; congr 1; omega
  · rw [if_neg h2]
/-- What the two halves are behind the exchange: each a rising row and another one, and all of the first ahead of all of the second. -/
theorem rot_parts {S : α → Prop} (o : Ord c S) {xs ys : List α} {a m b mid s e : Nat} (hS : ∀ k, a ≤ k → k < b → S (gt d xs k)) (hu1 : Up d c xs a m) (hu2 : Up d c xs m b)
    (h1 : a ≤ s) (h2 : s ≤ m) (h3 : m ≤ e) (h4 : e ≤ b) (h5 : e - m = mid - s) (h6 : s ≤ mid) (hq1 : a < s → e < b → c (gt d xs e) (gt d xs (s - 1)) = false) (hq2 : s < m → m < e → c (gt d xs (e - 1)) (gt d xs s) = true)
    (hy : ∀ k, gt d ys k = Rot s m e (gt d xs) k) :
    Up d c ys a s ∧ Up d c ys s mid ∧ Up d c ys mid e ∧ Up d c ys e b ∧ ∀ p q, a ≤ p → p < mid → mid ≤ q → q < b → le c (gt d ys p) (gt d ys q) := by
  have y1 : ∀ k, k < s → gt d ys k = gt d xs k := fun k hk => by rw [hy]; unfold Rot; rw [if_neg (by omega), if_neg (by omega)]
  have y2 : ∀ k, s ≤ k → k < mid → gt d ys k = gt d xs (m + (k - s)) := fun k g1 g2 => by rw [hy]; unfold Rot; rw [if_pos (by omega)]
  have y3 : ∀ k, mid ≤ k → k < e → gt d ys k = gt d xs (s + (k - mid)) := fun k g1 g2 => by rw [hy]; unfold Rot; rw [if_neg (by omega), if_pos (by omega)]; congr 1; omega
  have y4 : ∀ k, e ≤ k → gt d ys k = gt d xs k := fun k hk => by rw [hy]; unfold Rot; rw [if_neg (by omega), if_neg (by omega)]
  refine ⟨fun i j g1 g2 g3 => ?_, fun i j g1 g2 g3 => ?_, fun i j g1 g2 g3 => ?_, fun i j g1 g2 g3 => ?_, fun p q g1 g2 g3 g4 => ?_⟩
  · rw [y1 i (by omega), y1 j g3]; exact hu1 i j g1 g2 (by omega)
  · rw [y2 i g1 (by omega), y2 j (by omega) g3]; exact hu2 _ _ (by omega) (by omega) (by omega)
  · rw [y3 i g1 (by omega), y3 j (by omega) g3]; exact hu1 _ _ (by omega) (by omega) (by omega)
  · rw [y4 i g1, y4 j (by omega)]; exact hu2 i j (by omega) g2 g3
  · by_cases hp : p < s
    · rw [y1 p hp]
      by_cases hq : q < e
      · rw [y3 q g3 hq]; exact hu1 p _ g1 (by omega) (by omega)
      · rw [y4 q (by omega)]
        have e1 := hq1 (by omega) (by omega)
        have e2 := hu1 p (s - 1) g1 (by omega) (by omega)
        have e3 := hu2 e q (by omega) (by omega) g4
        exact o.tr _ _ _ (hS p g1 (by omega)) (hS e (by omega) (by omega)) (hS q (by omega) g4) (o.tr _ _ _ (hS p g1 (by omega)) (hS (s - 1) (by omega) (by omega)) (hS e (by omega) (by omega)) e2 e1) e3
    · rw [y2 p (by omega) g2]
      by_cases hq : q < e
      · rw [y3 q g3 hq]
        have e1 := o.asy _ _ (hS (e - 1) (by omega) (by omega)) (hS s (by omega) (by omega)) (hq2 (by omega) (by omega))
        have e2 := hu2 (m + (p - s)) (e - 1) (by omega) (by omega) (by omega)
        have e3 := hu1 s (s + (q - mid)) (by omega) (by omega) (by omega)
        exact o.tr _ _ _ (hS _ (by omega) (by omega)) (hS s (by omega) (by omega)) (hS _ (by omega) (by omega)) (o.tr _ _ _ (hS _ (by omega) (by omega)) (hS (e - 1) (by omega) (by omega)) (hS s (by omega) (by omega)) e2 e1) e3
      · rw [y4 q (by omega)]; exact hu2 _ q (by omega) (by omega) g4
/-- Two rising rows, all of the first ahead of all of the second. -/
theorem Up.join {xs : List α} {a m b : Nat} (h1 : Up d c xs a m) (h2 : Up d c xs m b) (h : ∀ p q, a ≤ p → p < m → m ≤ q → q < b → le c (gt d xs p) (gt d xs q)) : Up d c xs a b := by
  intro i j g1 g2 g3
  by_cases hj : j < m
  · exact h1 i j g1 g2 hj
  by_cases hi : i < m
  · exact h i j g1 hi (by omega) g3
  · exact h2 i j (by omega) g2 g3
/-- All of the first part stays ahead of all of the second, each turned in itself. -/
theorem cross_put {xs ys zs : List α} {a m b : Nat} (hl : b ≤ xs.length) (ham : a ≤ m) (hmb : m ≤ b) (p1 : Put d xs ys a m) (p2 : Put d ys zs m b) (h : ∀ p q, a ≤ p → p < m → m ≤ q → q < b → le c (gt d xs p) (gt d xs q)) : ∀ p q, a ≤ p → p < m → m ≤ q → q < b → le c (gt d zs p) (gt d zs q) := by
  intro p q g1 g2 g3 g4
  rw [p2.out p (.inl g2)]
  obtain ⟨p', a1, a2, e1⟩ := p1.mem d (by omega) p g1 g2
  obtain ⟨q', b1, b2, e2⟩ := p2.mem d (by rw [p1.len]; omega) q g3 g4
  rw [e1, e2, p1.out q' (.inr b1)]
  exact h p' q' a1 a2 b1 b2
theorem Put.all {S : α → Prop} {xs ys : List α} {a b : Nat} (h : Put d xs ys a b) (hS : ∀ k, k < xs.length → S (gt d xs k)) : ∀ k, k < ys.length → S (gt d ys k) := by
  intro k hk
  have h1 : gt d ys k ∈ ys := by rw [gt_of d hk]; exact List.getElem_mem hk
  have h2 := h.perm.mem_iff.1 h1
  obtain ⟨j, hj, e⟩ := List.mem_iff_getElem.1 h2
  rw [← e, ← gt_of d hj]
  exact hS j hj
/-! ### Blocks -/
/-- Blocks of a size, each rising. -/
def Blocks (xs : List α) (B n : Nat) : Prop := ∀ t, Up d c xs (t * B) (min ((t + 1) * B) n)
theorem Blocks.whole {xs : List α} {B n : Nat} (h : Blocks d c xs B n) (hn : n ≤ B) : Up d c xs 0 n := by
  have := h 0
  rwa [Nat.zero_mul, Nat.zero_add, Nat.one_mul, Nat.min_eq_right hn] at this
/-- A sorted list is the one that has these things in order. -/
theorem up_unique {S : α → Prop} (o : Ord c S) (hanti : ∀ x y, S x → S y → le c x y → le c y x → x = y) {xs ys : List α} (hp : ys.Perm xs) (hS : ∀ k, k < xs.length → S (gt d xs k)) (h1 : Up d c xs 0 xs.length) (h2 : Up d c ys 0 ys.length) : ys = xs := by
  have pw : ∀ zs : List α, Up d c zs 0 zs.length → zs.Pairwise (le c) := by
    intro zs h
    rw [List.pairwise_iff_getElem]
    intro i j hi hj hij
    have := h i j (by omega) (by omega) hj
    rwa [gt_of d hi, gt_of d hj] at this
  have hm : ∀ x ∈ xs, S x := fun x hx => by
    obtain ⟨j, hj, e⟩ := List.mem_iff_getElem.1 hx
    rw [← e, ← gt_of d hj]; exact hS j hj
  exact List.Perm.eq_of_pairwise (fun x y hx hy h1 h2 => hanti x y (hm x (hp.mem_iff.1 hx)) (hm y hy) h1 h2) (pw ys h2) (pw xs h1) hp
end
end Go.Proofs.YtfmjeggomphliaaGreatDoor.St

set_option linter.unusedVariables false
namespace Go.Proofs.YtfmjeggomphliaaGreatDoor.St

section
variable {α : Type} {d : α} {c : α → α → Bool}
/-- The first so many blocks of twenty rise. -/
def Ins20 (d : α) (c : α → α → Bool) (xs : List α) (k : Nat) : Prop := ∀ t, t < k → Up d c xs (t * 20) (t * 20 + 20)
theorem ins20_step {xs ys : List α} {k : Nat} (h : Ins20 d c xs k) (p : Put d xs ys (k * 20) (k * 20 + 20)) (u : Up d c ys (k * 20) (k * 20 + 20)) : Ins20 d c ys (k + 1) := by
  intro t ht
  by_cases e : t = k
  · subst e; exact u
  · exact (h t (by omega)).congr d c (fun j h1 h2 => p.out j (.inl (by omega)))
theorem ins20_end {xs ys : List α} {k n : Nat} (h : Ins20 d c xs k) (p : Put d xs ys (k * 20) n) (u : Up d c ys (k * 20) n) (h1 : k * 20 ≤ n) (h2 : n < k * 20 + 20) : Blocks d c ys 20 n := by
  intro t
  by_cases e : t = k
  · subst e
    exact u.sub d c (Nat.le_refl _) (by omega)
  by_cases e2 : t < k
  · exact ((h t e2).congr d c (fun j h1 h2 => p.out j (.inl (by omega)))).sub d c (Nat.le_refl _) (by omega)
  · intro i j g1 g2 g3
    omega
/-- Blocks of twice the size up to a; blocks of the size from there on. -/
def Half (d : α) (c : α → α → Bool) (xs : List α) (B a n : Nat) : Prop :=
  ∃ k, a = 2 * (k * B) ∧ (∀ t, t < k → Up d c xs (2 * (t * B)) (2 * (t * B) + 2 * B)) ∧ Up d c xs a (min (a + B) n) ∧ (∀ t, 2 * k + 1 ≤ t → Up d c xs (t * B) (min (t * B + B) n))
theorem two_mul' (t B : Nat) : (t + 1) * B = t * B + B := Nat.succ_mul t B
theorem half_start {xs : List α} {B n : Nat} (h : Blocks d c xs B n) : Half d c xs B 0 n := by
  refine ⟨0, by rw [Nat.zero_mul], fun t ht => absurd ht (Nat.not_lt_zero _), ?_, fun t ht => ?_⟩
  · have := h 0
    rwa [Nat.zero_mul, Nat.zero_add, Nat.one_mul, ← Nat.zero_add B] at this
  · have := h t
    rwa [two_mul' t B] at this
theorem odd_mul (k B : Nat) : (2 * k + 1) * B = 2 * (k * B) + B := by rw [Nat.succ_mul, Nat.mul_assoc]
theorem half_use {xs : List α} {B a n : Nat} (h : Half d c xs B a n) (hb : a + 2 * B ≤ n) : Up d c xs a (a + B) ∧ Up d c xs (a + B) (a + 2 * B) := by
  obtain ⟨k, e, h1, h2, h3⟩ := h
  refine ⟨h2.sub d c (Nat.le_refl _) (by omega), ?_⟩
  have := h3 (2 * k + 1) (Nat.le_refl _)
  rw [odd_mul, ← e] at this
  exact this.sub d c (Nat.le_refl _) (by omega)
theorem half_last {xs : List α} {B a n : Nat} (h : Half d c xs B a n) (hb : n < a + 2 * B) (hm : a + B < n) : Up d c xs a (a + B) ∧ Up d c xs (a + B) n := by
  obtain ⟨k, e, h1, h2, h3⟩ := h
  refine ⟨h2.sub d c (Nat.le_refl _) (by omega), ?_⟩
  have := h3 (2 * k + 1) (Nat.le_refl _)
  rw [odd_mul, ← e] at this
  exact this.sub d c (Nat.le_refl _) (by omega)
theorem half_step {xs ys : List α} {B a n : Nat} (h : Half d c xs B a n) (hb : a + 2 * B ≤ n) (p : Put d xs ys a (a + 2 * B)) (u : Up d c ys a (a + 2 * B)) : Half d c ys B (a + 2 * B) n := by
  obtain ⟨k, e, h1, h2, h3⟩ := h
  have mono : ∀ t, t < k → t * B + B ≤ k * B := fun t ht => by rw [← two_mul' t B]; exact Nat.mul_le_mul_right B ht
  refine ⟨k + 1, by rw [two_mul' k B]; omega, fun t ht => ?_, ?_, fun t ht => ?_⟩
  · by_cases et : t = k
    · subst et; rw [← e]; exact u
    · have := mono t (by omega)
      exact (h1 t (by omega)).congr d c (fun j g1 g2 => p.out j (.inl (by omega)))
  · have := h3 (2 * (k + 1)) (by omega)
    rw [Nat.mul_assoc, two_mul' k B, show 2 * (k * B + B) = a + 2 * B by omega] at this
    exact this.congr d c (fun j g1 g2 => p.out j (.inr (by omega)))
  · have := h3 t (by omega)
    have hm : 2 * (k * B + B) ≤ t * B := by
      have := Nat.mul_le_mul_right B (show 2 * (k + 1) ≤ t by omega)
      rw [Nat.mul_assoc, two_mul' k B] at this
      exact this
    exact this.congr d c (fun j g1 g2 => p.out j (.inr (by omega)))
theorem half_blocks {ys : List α} {B a n : Nat} (k : Nat) (e : a = 2 * (k * B)) (h1 : ∀ t, t < k → Up d c ys (2 * (t * B)) (2 * (t * B) + 2 * B)) (u : Up d c ys a n) (hb : n < a + 2 * B) (ha : a ≤ n) : Blocks d c ys (2 * B) n := by
  have mono : ∀ t, t < k → t * B + B ≤ k * B := fun t ht => by rw [← two_mul' t B]; exact Nat.mul_le_mul_right B ht
  intro t
  have e1 : t * (2 * B) = 2 * (t * B) := Nat.mul_left_comm _ _ _
  rw [two_mul' t (2 * B), e1]
  by_cases et : t = k
  · subst et; rw [← e]; exact u.sub d c (Nat.le_refl _) (by omega)
  by_cases e2 : t < k
  · have := mono t e2
    exact (h1 t e2).sub d c (Nat.le_refl _) (by omega)
  · intro i j g1 g2 g3
    have : k * B + B ≤ t * B := by rw [← two_mul' k B]; exact Nat.mul_le_mul_right B (by omega)
    omega
theorem half_end1 {xs ys : List α} {B a n : Nat} (h : Half d c xs B a n) (hb : n < a + 2 * B) (ha : a ≤ n) (p : Put d xs ys a n) (u : Up d c ys a n) : Blocks d c ys (2 * B) n := by
  obtain ⟨k, e, h1, h2, h3⟩ := h
  have mono : ∀ t, t < k → t * B + B ≤ k * B := fun t ht => by rw [← two_mul' t B]; exact Nat.mul_le_mul_right B ht
  exact half_blocks k e (fun t ht => (h1 t ht).congr d c (fun j g1 g2 => p.out j (.inl (by have := mono t ht; omega)))) u hb ha
theorem half_end2 {xs : List α} {B a n : Nat} (h : Half d c xs B a n) (hb : n < a + 2 * B) (ha : a ≤ n) (hm : n ≤ a + B) : Blocks d c xs (2 * B) n := by
  obtain ⟨k, e, h1, h2, h3⟩ := h
  exact half_blocks k e h1 (h2.sub d c (Nat.le_refl _) (by omega)) hb ha
end
end Go.Proofs.YtfmjeggomphliaaGreatDoor.St
