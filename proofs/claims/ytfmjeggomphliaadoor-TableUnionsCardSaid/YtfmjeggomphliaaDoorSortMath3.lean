/- The plain law of the library's stable sort, more: blocks of twice the size. No program in sight. -/
import Derived.Test.YtfmjeggomphliaaDoorSortMath2
set_option linter.unusedVariables false
namespace Go.Proofs.YtfmjeggomphliaaDoor.St

section
variable {α : Type} {d : α} {c : α → α → Bool}
/-- The first so many blocks of twenty rise. -/
def Ins20 (d : α) (c : α → α → Bool) (xs : List α) (k : Nat) : Prop := ∀ t, t < k → Up d c xs (t * 20) (t * 20 + 20)
theorem ins20_step {xs ys : List α} {k : Nat} (h : Ins20 d c xs k) (p : Put d xs ys (k * 20) (k * 20 + 20)) (u : Up d c ys (k * 20) (k * 20 + 20)) : Ins20 d c ys (k + 1) := by
  intro t ht
  by_cases e : t = k
  · subst e; exact u
  · exact (h t (by omega)).congr d c (fun j h1 h2 => p.out j (.inl (by omega)))
theorem ins20_end {xs ys : List α} {k n : Nat} (h : Ins20 d c xs k) (p : Put d xs ys (k * 20) n) (u : Up d c ys (k * 20) n) (h1 : k * 20 ≤ n) (h2 : n < k * 20 + 20) : Blocks d c ys 20 n := by
  intro t
  by_cases e : t = k
  · subst e
    exact u.sub d c (Nat.le_refl _) (by omega)
  by_cases e2 : t < k
  · exact ((h t e2).congr d c (fun j h1 h2 => p.out j (.inl (by omega)))).sub d c (Nat.le_refl _) (by omega)
  · intro i j g1 g2 g3
    omega
/-- Blocks of twice the size up to a; blocks of the size from there on. -/
def Half (d : α) (c : α → α → Bool) (xs : List α) (B a n : Nat) : Prop :=
  ∃ k, a = 2 * (k * B) ∧ (∀ t, t < k → Up d c xs (2 * (t * B)) (2 * (t * B) + 2 * B)) ∧ Up d c xs a (min (a + B) n) ∧ (∀ t, 2 * k + 1 ≤ t → Up d c xs (t * B) (min (t * B + B) n))
theorem two_mul' (t B : Nat) : (t + 1) * B = t * B + B := Nat.succ_mul t B
theorem half_start {xs : List α} {B n : Nat} (h : Blocks d c xs B n) : Half d c xs B 0 n := by
  refine ⟨0, by rw [Nat.zero_mul], fun t ht => absurd ht (Nat.not_lt_zero _), ?_, fun t ht => ?_⟩
  · have := h 0
    rwa [Nat.zero_mul, Nat.zero_add, Nat.one_mul, ← Nat.zero_add B] at this
  · have := h t
    rwa [two_mul' t B] at this
theorem odd_mul (k B : Nat) : (2 * k + 1) * B = 2 * (k * B) + B := by rw [Nat.succ_mul, Nat.mul_assoc]
theorem half_use {xs : List α} {B a n : Nat} (h : Half d c xs B a n) (hb : a + 2 * B ≤ n) : Up d c xs a (a + B) ∧ Up d c xs (a + B) (a + 2 * B) := by
  obtain ⟨k, e, h1, h2, h3⟩ := h
  refine ⟨h2.sub d c (Nat.le_refl _) (by omega), ?_⟩
  have := h3 (2 * k + 1) (Nat.le_refl _)
  rw [odd_mul, ← e] at this
  exact this.sub d c (Nat.le_refl _) (by omega)
theorem half_last {xs : List α} {B a n : Nat} (h : Half d c xs B a n) (hb : n < a + 2 * B) (hm : a + B < n) : Up d c xs a (a + B) ∧ Up d c xs (a + B) n := by
  obtain ⟨k, e, h1, h2, h3⟩ := h
  refine ⟨h2.sub d c (Nat.le_refl _) (by omega), ?_⟩
  have := h3 (2 * k + 1) (Nat.le_refl _)
  rw [odd_mul, ← e] at this
  exact this.sub d c (Nat.le_refl _) (by omega)
theorem half_step {xs ys : List α} {B a n : Nat} (h : Half d c xs B a n) (hb : a + 2 * B ≤ n) (p : Put d xs ys a (a + 2 * B)) (u : Up d c ys a (a + 2 * B)) : Half d c ys B (a + 2 * B) n := by
  obtain ⟨k, e, h1, h2, h3⟩ := h
  have mono : ∀ t, t < k → t * B + B ≤ k * B := fun t ht => by rw [← two_mul' t B]; exact Nat.mul_le_mul_right B ht
  refine ⟨k + 1, by rw [two_mul' k B]; omega, fun t ht => ?_, ?_, fun t ht => ?_⟩
  · by_cases et : t = k
    · subst et; rw [← e]; exact u
    · have := mono t (by omega)
      exact (h1 t (by omega)).congr d c (fun j g1 g2 => p.out j (.inl (by omega)))
  · have := h3 (2 * (k + 1)) (by omega)
    rw [Nat.mul_assoc, two_mul' k B, show 2 * (k * B + B) = a + 2 * B by omega] at this
    exact this.congr d c (fun j g1 g2 => p.out j (.inr (by omega)))
  · have := h3 t (by omega)
    have hm : 2 * (k * B + B) ≤ t * B := by
      have := Nat.mul_le_mul_right B (show 2 * (k + 1) ≤ t by omega)
      rw [Nat.mul_assoc, two_mul' k B] at this
      exact this
    exact this.congr d c (fun j g1 g2 => p.out j (.inr (by omega)))
theorem half_blocks {ys : List α} {B a n : Nat} (k : Nat) (e : a = 2 * (k * B)) (h1 : ∀ t, t < k → Up d c ys (2 * (t * B)) (2 * (t * B) + 2 * B)) (u : Up d c ys a n) (hb : n < a + 2 * B) (ha : a ≤ n) : Blocks d c ys (2 * B) n := by
  have mono : ∀ t, t < k → t * B + B ≤ k * B := fun t ht => by rw [← two_mul' t B]; exact Nat.mul_le_mul_right B ht
  intro t
  have e1 : t * (2 * B) = 2 * (t * B) := Nat.mul_left_comm _ _ _
  rw [two_mul' t (2 * B), e1]
  by_cases et : t = k
  · subst et; rw [← e]; exact u.sub d c (Nat.le_refl _) (by omega)
  by_cases e2 : t < k
  · have := mono t e2
    exact (h1 t e2).sub d c (Nat.le_refl _) (by omega)
  · intro i j g1 g2 g3
    have : k * B + B ≤ t * B := by rw [← two_mul' k B]; exact Nat.mul_le_mul_right B (by omega)
    omega
theorem half_end1 {xs ys : List α} {B a n : Nat} (h : Half d c xs B a n) (hb : n < a + 2 * B) (ha : a ≤ n) (p : Put d xs ys a n) (u : Up d c ys a n) : Blocks d c ys (2 * B) n := by
  obtain ⟨k, e, h1, h2, h3⟩ := h
  have mono : ∀ t, t < k → t * B + B ≤ k * B := fun t ht => by rw [← two_mul' t B]; exact Nat.mul_le_mul_right B ht
  exact half_blocks k e (fun t ht => (h1 t ht).congr d c (fun j g1 g2 => p.out j (.inl (by have := mono t ht; omega)))) u hb ha
theorem half_end2 {xs : List α} {B a n : Nat} (h : Half d c xs B a n) (hb : n < a + 2 * B) (ha : a ≤ n) (hm : n ≤ a + B) : Blocks d c xs (2 * B) n := by
  obtain ⟨k, e, h1, h2, h3⟩ := h
  exact half_blocks k e h1 (h2.sub d c (Nat.le_refl _) (by omega)) hb ha
end
end Go.Proofs.YtfmjeggomphliaaDoor.St
