/- The plain law of the library's stable sort: swaps, blocks exchanged, halves merged in place. No program in sight. -/
set_option linter.unusedVariables false
namespace Go.Proofs.YtfmjeggomphliaaDoor.St

section
variable {α : Type} (d : α)
/-- What stands at a place. -/
def gt (xs : List α) (i : Nat) : α := xs.getD i d
/-- Two places exchanged. -/
def sw (xs : List α) (i j : Nat) : List α := (xs.set i (gt d xs j)).set j (gt d xs i)
theorem sw_len (xs : List α) (i j : Nat) : (sw d xs i j).length = xs.length := by simp [sw]
theorem gt_of {xs : List α} {i : Nat} (h : i < xs.length) : gt d xs i = xs[i] := by simp [gt, List.getD, h]
theorem sw_gt {xs : List α} {i j : Nat} (hi : i < xs.length) (hj : j < xs.length) (k : Nat) : gt d (sw d xs i j) k = if k = j then gt d xs i else if k = i then gt d xs j else gt d xs k := by
  unfold sw
  by_cases h : k < xs.length
  · rw [gt_of d (by simp; exact h)]
    rw [List.getElem_set]
    by_cases h1 : j = k
    · subst h1; rw [if_pos rfl, if_pos rfl]
    rw [if_neg h1, if_neg (Ne.symm h1), List.getElem_set]
    by_cases h2 : i = k
    · subst h2; rw [if_pos rfl, if_pos rfl]
    rw [if_neg h2, if_neg (Ne.symm h2), gt_of d h]
  · rw [if_neg (by omega), if_neg (by omega)]
    unfold gt
    show (((xs.set i _).set j _)[k]?).getD d = (xs[k]?).getD d
    rw [List.getElem?_eq_none (by simp; omega), List.getElem?_eq_none (by omega)]
theorem sw_perm {xs : List α} {i j : Nat} (hi : i < xs.length) (hj : j < xs.length) : (sw d xs i j).Perm xs := by
  unfold sw
  rw [gt_of d hi, gt_of d hj]
  exact List.set_set_perm hi hj
/-- Two lists of one length that are the same at all places. -/
theorem gt_ext {xs ys : List α} (hl : xs.length = ys.length) (h : ∀ k, k < xs.length → gt d xs k = gt d ys k) : xs = ys := by
  apply List.ext_getElem hl
  intro i h1 h2
  have := h i h1
  rwa [gt_of d h1, gt_of d h2] at this

/-! ### The order -/
variable (c : α → α → Bool)
/-- Behind or beside. -/
def le (x y : α) : Prop := c y x = false
/-- A strict weak order on the things of a list. -/
structure Ord (S : α → Prop) : Prop where
  tr : ∀ x y z, S x → S y → S z → le c x y → le c y z → le c x z
  tot : ∀ x y, S x → S y → le c x y ∨ le c y x
  asy : ∀ x y, S x → S y → c x y = true → c y x = false
/-- Rising from a place to a place. -/
def Up (xs : List α) (a b : Nat) : Prop := ∀ i j, a ≤ i → i ≤ j → j < b → le c (gt d xs i) (gt d xs j)
theorem Ord.rfl' {S : α → Prop} (o : Ord c S) {x : α} (h : S x) : le c x x := (o.tot x x h h).elim id id
theorem Up.one {S : α → Prop} (o : Ord c S) {xs : List α} {a b : Nat} (hS : ∀ i, a ≤ i → i < b → S (gt d xs i)) (h : b ≤ a + 1) : Up d c xs a b := fun i j h1 h2 h3 => by
  obtain rfl : i = j := by omega
  exact o.rfl' c (hS i h1 h3)
theorem Up.sub {xs : List α} {a b a' b' : Nat} (h : Up d c xs a b) (h1 : a ≤ a') (h2 : b' ≤ b) : Up d c xs a' b' := fun i j g1 g2 g3 => h i j (by omega) g2 (by omega)
theorem Up.congr {xs ys : List α} {a b : Nat} (h : Up d c xs a b) (e : ∀ k, a ≤ k → k < b → gt d ys k = gt d xs k) : Up d c ys a b := fun i j g1 g2 g3 => by
  rw [e i (by omega) (by omega), e j (by omega) (by omega)]
  exact h i j g1 g2 g3
/-- Only what stands from a place to a place has been put in other places. -/
structure Put (xs ys : List α) (a b : Nat) : Prop where
  perm : ys.Perm xs
  out : ∀ k, k < a ∨ b ≤ k → gt d ys k = gt d xs k
theorem Put.refl (xs : List α) (a b : Nat) : Put d xs xs a b := ⟨List.Perm.refl _, fun _ _ => rfl⟩
theorem Put.trans {xs ys zs : List α} {a b : Nat} (h : Put d xs ys a b) (h' : Put d ys zs a b) : Put d xs zs a b := ⟨h'.perm.trans h.perm, fun k hk => (h'.out k hk).trans (h.out k hk)⟩
theorem Put.mono {xs ys : List α} {a b a' b' : Nat} (h : Put d xs ys a b) (h1 : a' ≤ a) (h2 : b ≤ b') : Put d xs ys a' b' := ⟨h.perm, fun k hk => h.out k (by omega)⟩
theorem Put.len {xs ys : List α} {a b : Nat} (h : Put d xs ys a b) : ys.length = xs.length := h.perm.length_eq
theorem Put.sw {xs : List α} {a b i j : Nat} (hi : i < xs.length) (hj : j < xs.length) (h1 : a ≤ i) (h2 : i < b) (h3 : a ≤ j) (h4 : j < b) : Put d xs (St.sw d xs i j) a b :=
  ⟨sw_perm d hi hj, fun k hk => by rw [sw_gt d hi hj, if_neg (by omega), if_neg (by omega)]⟩
/-- What stands in the part that was turned stood in it. -/
theorem Put.mem {xs ys : List α} {a b : Nat} (h : Put d xs ys a b) (hb : b ≤ xs.length) : ∀ k, a ≤ k → k < b → ∃ j, a ≤ j ∧ j < b ∧ gt d ys k = gt d xs j := by
  intro k h1 h2
  have hl := h.len
  -- the parts ahead of a and behind b are the same: so is, as a heap, what is between
  have e1 : ys.take a = xs.take a := by
    apply gt_ext d (by simp [hl])
    intro i hi
    simp only [List.length_take] at hi
    have := h.out i (.inl (by omega))
    rw [gt_of d (by omega), gt_of d (by omega)] at this
    rw [gt_of d (by simp; omega), gt_of d (by simp; omega), List.getElem_take, List.getElem_take]
    exact this
  have e2 : ys.drop b = xs.drop b := by
    apply gt_ext d (by simp [hl])
    intro i hi
    simp only [List.length_drop] at hi
    have := h.out (b + i) (.inr (by omega))
    rw [gt_of d (by omega), gt_of d (by omega)] at this
    rw [gt_of d (by simp; omega), gt_of d (by simp; omega), List.getElem_drop, List.getElem_drop]
    exact this
  have p1 : ys = ys.take a ++ ((ys.drop a).take (b - a) ++ ys.drop b) := by
    conv => lhs; rw [← List.take_append_drop a ys, ← List.take_append_drop (b - a) (ys.drop a)]
    rw [List.drop_drop, show a + (b - a) = b by omega]
  have p2 : xs = xs.take a ++ ((xs.drop a).take (b - a) ++ xs.drop b) := by
    conv => lhs; rw [← List.take_append_drop a xs, ← List.take_append_drop (b - a) (xs.drop a)]
    rw [List.drop_drop, show a + (b - a) = b by omega]
  have hp := h.perm
  rw [p1, p2, e1, e2] at hp
  have hp2 := (List.perm_append_right_iff _).1 ((List.perm_append_left_iff _).1 hp)
  have hk : gt d ys k ∈ (ys.drop a).take (b - a) := by
    rw [gt_of d (by omega), List.mem_iff_getElem]
    refine ⟨k - a, by simp; omega, ?_⟩
    rw [List.getElem_take, List.getElem_drop]
    congr 1
    omega
  have := hp2.mem_iff.1 hk
  rw [List.mem_iff_getElem] at this
  obtain ⟨j, hj, e⟩ := this
  simp only [List.length_take, List.length_drop] at hj
  refine ⟨a + j, by omega, by omega, ?_⟩
  rw [← e, List.getElem_take, List.getElem_drop, gt_of d (by omega)]

/-! ### Insertion -/
/-- In the midst of an insertion: all but the one at j stand right, and it stands ahead of those behind it. -/
structure Ins (xs : List α) (a i j : Nat) : Prop where
  lej : j ≤ i
  gej : a ≤ j
  oth : ∀ p q, a ≤ p → p < q → q ≤ i → p ≠ j → q ≠ j → le c (gt d xs p) (gt d xs q)
  hd : ∀ q, j < q → q ≤ i → le c (gt d xs j) (gt d xs q)
theorem Ins.start {xs : List α} {a i : Nat} (h : Up d c xs a i) (ha : a ≤ i) : Ins d c xs a i i :=
  ⟨Nat.le_refl _, ha, fun p q h1 h2 h3 h4 h5 => h p q h1 (by omega) (by omega), fun q h1 h2 => by omega⟩
theorem Ins.step {S : α → Prop} (o : Ord c S) {xs : List α} {a i j : Nat} (h : Ins d c xs a i j) (hj : a < j) (hi : i < xs.length) (hS : ∀ k, k ≤ i → S (gt d xs k)) (hc : c (gt d xs j) (gt d xs (j - 1)) = true) : Ins d c (sw d xs j (j - 1)) a i (j - 1) := by
  have hl := h.lej
  have e := fun k => sw_gt d (xs := xs) (i := j) (j := j - 1) (by omega) (by omega) k
  have hle : le c (gt d xs j) (gt d xs (j - 1)) := o.asy _ _ (hS j (by omega)) (hS (j - 1) (by omega)) hc
  refine ⟨by omega, by omega, fun p q h1 h2 h3 h4 h5 => ?_, fun q h1 h2 => ?_⟩
  · rw [e p, e q]
    rw [if_neg h4, if_neg h5]
    by_cases hpj : p = j
    · rw [if_pos hpj, if_neg (by omega)]
      exact h.oth (j - 1) q (by omega) (by omega) h3 (by omega) (by omega)
    · rw [if_neg hpj]
      by_cases hqj : q = j
      · rw [if_pos hqj]
        exact h.oth p (j - 1) h1 (by omega) (by omega) hpj (by omega)
      · rw [if_neg hqj]
        exact h.oth p q h1 h2 h3 hpj hqj
  · rw [e (j - 1), e q, if_pos rfl, if_neg (by omega)]
    by_cases hqj : q = j
    · rw [if_pos hqj]; exact hle
    · rw [if_neg hqj]; exact h.hd q (by omega) h2
theorem Ins.stop {S : α → Prop} (o : Ord c S) {xs : List α} {a i j : Nat} (h : Ins d c xs a i j) (hS : ∀ k, k ≤ i → S (gt d xs k)) (hc : j = a ∨ (a < j ∧ c (gt d xs j) (gt d xs (j - 1)) = false)) : Up d c xs a (i + 1) := by
  have hl := h.lej
  intro p q h1 h2 h3
  by_cases hpq : p = q
  · subst hpq; exact o.rfl' c (hS p (by omega))
  by_cases hpj : p = j
  · subst hpj; exact h.hd q (by omega) (by omega)
  by_cases hqj : q = j
  · subst hqj
    rcases hc with rfl | ⟨hc1, hc2⟩
    · omega
    · by_cases hp1 : p = q - 1
      · subst hp1; exact hc2
      · exact o.tr _ _ _ (hS p (by omega)) (hS (q - 1) (by omega)) (hS q (by omega)) (h.oth p (q - 1) h1 (by omega) (by omega) hpj (by omega)) hc2
  · exact h.oth p q h1 (by omega) (by omega) hpj hqj

/-! ### Blocks exchanged -/
/-- n places from a on exchanged with those from b on. -/
def Swr (a b n : Nat) (f : Nat → α) (k : Nat) : α := if a ≤ k ∧ k < a + n then f (b + (k - a)) else if b ≤ k ∧ k < b + n then f (a + (k - b)) else f k
theorem swr_step {xs : List α} {a b i : Nat} {f : Nat → α} (hab : a + i < b) (hb : b + i < xs.length) (h : ∀ k, gt d xs k = Swr a b i f k) : ∀ k, gt d (sw d xs (a + i) (b + i)) k = Swr a b (i + 1) f k := by
  intro k
  rw [sw_gt d (by omega) (by omega), h, h, h]
  unfold Swr
  by_cases h1 : k = b + i
  · subst h1
    rw [if_pos rfl, if_neg (by omega), if_neg (by omega), if_neg (by omega), if_pos (by omega)]
    congr 1; omega
  rw [if_neg h1]
  by_cases h2 : k = a + i
  · subst h2
    rw [if_pos rfl, if_neg (by omega), if_neg (by omega), if_pos (by omega)]
    congr 1; omega
  rw [if_neg h2]
  by_cases h3 : a ≤ k ∧ k < a + i
  · rw [if_pos h3, if_pos (by omega)]
  rw [if_neg h3]
  by_cases h4 : b ≤ k ∧ k < b + i
  · rw [if_pos h4, if_neg (by omega), if_pos (by omega)]
  rw [if_neg h4, if_neg (by omega), if_neg (by omega)]
/-- The places from s to m, and from m to e: the latter ahead of the former. -/
def Rot (s m e : Nat) (f : Nat → α) (k : Nat) : α := if s ≤ k ∧ k < s + (e - m) then f (m + (k - s)) else if s + (e - m) ≤ k ∧ k < e then f (s + (k - (s + (e - m)))) else f k
theorem rot_gt {m i j : Nat} (hij : j < i) (him : i ≤ m) (f : Nat → α) (k : Nat) : Rot (m - (i - j)) m (m + j) (Swr (m - i) m j f) k = Rot (m - i) m (m + j) f k := by
  unfold Rot Swr
  by_cases h1 : m - i ≤ k ∧ k < m - i + (m + j - m)
  · rw [if_pos h1, if_neg (by omega), if_neg (by omega), if_pos (by omega)]
  rw [if_neg h1]
  by_cases h2 : m - i + (m + j - m) ≤ k ∧ k < m + j
  · rw [if_pos h2]
    by_cases h3 : m - (i - j) ≤ k ∧ k < m - (i - j) + (m + j - m)
    · rw [if_pos h3, if_neg (by omega), if_pos (by omega)]
      congr 1; omega
    · rw [if_neg h3, if_pos (by omega)]
      by_cases h4 : m - i ≤ m - (i - j) + (k - (m - (i - j) + (m + j - m))) ∧ m - (i - j) + (k - (m - (i - j) + (m + j - m))) < m - i + j
      · omega
      · rw [if_neg h4, if_neg (by omega)]
        congr 1; omega
  · rw [if_neg h2, if_neg (by omega), if_neg (by omega), if_neg (by omega), if_neg (by omega)]
theorem rot_lt {m i j : Nat} (hij : i < j) (him : i ≤ m) (f : Nat → α) (k : Nat) : Rot (m - i) m (m + (j - i)) (Swr (m - i) (m + j - i) i f) k = Rot (m - i) m (m + j) f k := by
  unfold Rot Swr
  by_cases h1 : m - i ≤ k ∧ k < m - i + (m + j - m)
  · rw [if_pos h1]
    by_cases h3 : m - i ≤ k ∧ k < m - i + (m + (j - i) - m)
    · rw [if_pos h3, if_neg (by omega), if_neg (by omega)]
    · rw [if_neg h3]
      by_cases h4 : m - i + (m + (j - i) - m) ≤ k ∧ k < m + (j - i)
      · rw [if_pos h4, if_pos (by omega)]
        congr 1; omega
      · omega
  rw [if_neg h1]
  by_cases h2 : m - i + (m + j - m) ≤ k ∧ k < m + j
  · rw [if_pos h2, if_neg (by omega), if_neg (by omega), if_neg (by omega), if_pos (by omega)]
    congr 1; omega
  · rw [if_neg h2, if_neg (by omega), if_neg (by omega), if_neg (by omega), if_neg (by omega)]
theorem rot_eq {m i : Nat} (him : i ≤ m) (f : Nat → α) (k : Nat) : Swr (m - i) m i f k = Rot (m - i) m (m + i) f k := by
  unfold Rot Swr
  by_cases h1 : m - i ≤ k ∧ k < m - i + i
  · rw [if_pos h1, if_pos (by omega)]
  rw [if_neg h1]
  by_cases h2 : m ≤ k ∧ k < m + i
  · rw [if_pos h2, if_neg (by omega), if_pos (by omega)]
    congr 1; omega
  · rw [if_neg h2, if_neg (by omega), if_neg (by omega)]
end
end Go.Proofs.YtfmjeggomphliaaDoor.St
