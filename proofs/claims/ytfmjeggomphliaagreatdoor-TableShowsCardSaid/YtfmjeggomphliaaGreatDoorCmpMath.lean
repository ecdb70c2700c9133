/- The plain law on the order of values and of rows. No program in sight. -/
import Derived.Test.YtfmjeggomphliaaGreatDoorTabVal
import Derived.Test.YtfmjeggomphliaaGreatDoorSortMath
set_option linter.unusedVariables false
namespace Go.Proofs.YtfmjeggomphliaaGreatDoor.Tb
open Go.RowKit Go Ba Va

theorem cb_swap : ∀ (a b : List UInt8), Lib.compareBytes b a = - Lib.compareBytes a b
  | [], [] => rfl
  | [], _ :: _ => rfl
  | _ :: _, [] => rfl
  | x :: a, y :: b => by
    have ih := cb_swap a b
    unfold Lib.compareBytes
    by_cases h1 : x < y
    · have h2 : ¬ y < x := by rw [UInt8.lt_iff_toNat_lt] at *; omega
      rw [if_pos h1, if_neg h2, if_pos h1]; decide
    · by_cases h2 : y < x
      · rw [if_pos h2, if_neg h1, if_pos h2]
      · rw [if_neg h2, if_neg h1, if_neg h1, if_neg h2]; exact ih
theorem cb_rng : ∀ (a b : List UInt8), -1 ≤ Lib.compareBytes a b ∧ Lib.compareBytes a b ≤ 1
  | [], [] => by decide
  | [], _ :: _ => by unfold Lib.compareBytes; decide
  | _ :: _, [] => by unfold Lib.compareBytes; decide
  | x :: a, y :: b => by
    have ih := cb_rng a b
    unfold Lib.compareBytes
    by_cases h1 : x < y
    · rw [if_pos h1]; decide
    · by_cases h2 : y < x
      · rw [if_neg h1, if_pos h2]; decide
      · rw [if_neg h1, if_neg h2]; exact ih
theorem cb_zero : ∀ (a b : List UInt8), Lib.compareBytes a b = 0 ↔ a = b
  | [], [] => by simp [Lib.compareBytes]
  | [], _ :: _ => by simp [Lib.compareBytes]
  | _ :: _, [] => by simp [Lib.compareBytes]
  | x :: a, y :: b => by
    have ih := cb_zero a b
    unfold Lib.compareBytes
    by_cases h1 : x < y
    · rw [if_pos h1]
      refine ⟨fun h => absurd h (by decide), fun h => ?_⟩
      injection h with h _
      subst h
      rw [UInt8.lt_iff_toNat_lt] at h1; omega
    · by_cases h2 : y < x
      · rw [if_neg h1, if_pos h2]
        refine ⟨fun h => absurd h (by decide), fun h => ?_⟩
        injection h with h _
        subst h
        rw [UInt8.lt_iff_toNat_lt] at h2; omega
      · rw [if_neg h1, if_neg h2, ih]
        have : x = y := by rw [UInt8.lt_iff_toNat_lt] at h1 h2; exact UInt8.toNat_inj.1 (by omega)
        subst this
        simp
theorem cv_facts (ka na : Int) (sa : ByteArray) (kb nb : Int) (sb : ByteArray) :
    cmpV kb nb sb ka na sa = - cmpV ka na sa kb nb sb ∧ -1 ≤ cmpV ka na sa kb nb sb ∧ cmpV ka na sa kb nb sb ≤ 1 ∧ (cmpV ka na sa kb nb sb = 0 ↔ ka = kb ∧ na = nb ∧ sa = sb) := by
  by_cases hk : ka = kb
  · subst hk
    by_cases hn : na = nb
    · subst hn
      rw [cv_text, cv_text, cb_zero]
      refine ⟨cb_swap _ _, (cb_rng _ _).1, (cb_rng _ _).2, ?_⟩
      simp only [true_and]
      exact ⟨fun h => Go.WideShapes.bytes_inj h, fun h => by rw [h]⟩
    · rw [cv_num hn, cv_num (fun h => hn h.symm)]
      by_cases g : na < nb
      · rw [if_pos g, if_neg (by omega)]
        exact ⟨rfl, by decide, by decide, ⟨fun h => absurd h (by decide), fun h => absurd h.2.1 hn⟩⟩
      · rw [if_neg g, if_pos (by omega)]
        exact ⟨rfl, by decide, by decide, ⟨fun h => absurd h (by decide), fun h => absurd h.2.1 hn⟩⟩
  · rw [cv_kind hk, cv_kind (fun h => hk h.symm)]
    by_cases g : ka < kb
    · rw [if_pos g, if_neg (by omega)]
      exact ⟨rfl, by decide, by decide, ⟨fun h => absurd h (by decide), fun h => absurd h.1 hk⟩⟩
    · rw [if_neg g, if_pos (by omega)]
      exact ⟨rfl, by decide, by decide, ⟨fun h => absurd h (by decide), fun h => absurd h.1 hk⟩⟩
theorem cb_trans : ∀ (a b c : List UInt8), Lib.compareBytes a b ≤ 0 → Lib.compareBytes b c ≤ 0 → Lib.compareBytes a c ≤ 0
  | [], _, [], _, _ => by decide
  | [], _, _ :: _, _, _ => by unfold Lib.compareBytes; decide
  | x :: a, [], c, h, _ => by unfold Lib.compareBytes at h; exact absurd h (by decide)
  | x :: a, y :: b, [], _, h => by unfold Lib.compareBytes at h; exact absurd h (by decide)
  | x :: a, y :: b, z :: c, h1, h2 => by
    have ih := cb_trans a b c
    unfold Lib.compareBytes at h1 h2 ⊢
    simp only [UInt8.lt_iff_toNat_lt] at h1 h2 ⊢
    by_cases a1 : x.toNat < y.toNat
    · by_cases b1 : y.toNat < z.toNat
      · rw [if_pos (by omega)]; decide
      · rw [if_neg b1] at h2
        by_cases b2 : z.toNat < y.toNat
        · rw [if_pos b2] at h2; exact absurd h2 (by decide)
        · rw [if_pos (by omega)]; decide
    · rw [if_neg a1] at h1
      by_cases a2 : y.toNat < x.toNat
      · rw [if_pos a2] at h1; exact absurd h1 (by decide)
      · rw [if_neg a2] at h1
        by_cases b1 : y.toNat < z.toNat
        · rw [if_pos (by omega)]; decide
        · rw [if_neg b1] at h2
          by_cases b2 : z.toNat < y.toNat
          · rw [if_pos b2] at h2; exact absurd h2 (by decide)
          · rw [if_neg b2] at h2
            rw [if_neg (by omega), if_neg (by omega)]
            exact ih h1 h2
/-- A value: its kind, number, text. -/
structure Val where
  k : Int
  n : Int
  t : ByteArray
def cmp2 (a b : Val) : Int := cmpV a.k a.n a.t b.k b.n b.t
theorem cmp2_facts (a b : Val) : cmp2 b a = - cmp2 a b ∧ -1 ≤ cmp2 a b ∧ cmp2 a b ≤ 1 ∧ (cmp2 a b = 0 ↔ a = b) := by
  obtain ⟨h1, h2, h3, h4⟩ := cv_facts a.k a.n a.t b.k b.n b.t
  refine ⟨h1, h2, h3, ?_⟩
  obtain ⟨ak, an, at'⟩ := a
  obtain ⟨bk, bn, bt⟩ := b
  rw [Val.mk.injEq]
  exact h4
theorem cmp2_trans (a b c : Val) (h1 : cmp2 a b ≤ 0) (h2 : cmp2 b c ≤ 0) : cmp2 a c ≤ 0 := by
  obtain ⟨ak, an, at'⟩ := a
  obtain ⟨bk, bn, bt⟩ := b
  obtain ⟨ck, cn, ct⟩ := c
  unfold cmp2 at h1 h2 ⊢
  simp only at h1 h2 ⊢
  by_cases hk1 : ak = bk
  · subst hk1
    by_cases hk2 : ak = ck
    · subst hk2
      by_cases hn1 : an = bn
      · subst hn1
        by_cases hn2 : an = cn
        · subst hn2
          rw [cv_text] at h1 h2 ⊢
          exact cb_trans _ _ _ h1 h2
        · rw [cv_num hn2] at h2 ⊢; exact h2
      · by_cases hn2 : bn = cn
        · subst hn2
          rw [cv_num hn1] at h1 ⊢; exact h1
        · rw [cv_num hn1] at h1
          rw [cv_num hn2] at h2
          by_cases hn3 : an = cn
          · subst hn3
            split at h1 <;> split at h2 <;> first | omega | (exact absurd h1 (by decide)) | (exact absurd h2 (by decide))
          · rw [cv_num hn3]
            split at h1
            · split at h2
              · rw [if_pos (by omega)]; decide
              · exact absurd h2 (by decide)
            · exact absurd h1 (by decide)
    · rw [cv_kind hk2] at h2 ⊢; exact h2
  · by_cases hk2 : bk = ck
    · subst hk2
      rw [cv_kind hk1] at h1 ⊢; exact h1
    · rw [cv_kind hk1] at h1
      rw [cv_kind hk2] at h2
      by_cases hk3 : ak = ck
      · subst hk3
        split at h1 <;> split at h2 <;> first | omega | (exact absurd h1 (by decide)) | (exact absurd h2 (by decide))
      · rw [cv_kind hk3]
        split at h1
        · split at h2
          · rw [if_pos (by omega)]; decide
          · exact absurd h2 (by decide)
        · exact absurd h1 (by decide)
/-- The order of two rows. -/
def cmpR : List Val → List Val → Int
  | [], [] => 0
  | [], _ :: _ => -1
  | _ :: _, [] => 1
  | a :: r, b :: s => if cmp2 a b = 0 then cmpR r s else cmp2 a b
theorem cmpR_cons (a b : Val) (r s : List Val) : cmpR (a :: r) (b :: s) = if cmp2 a b = 0 then cmpR r s else cmp2 a b := rfl
theorem cmpR_swap : ∀ a b : List Val, cmpR b a = - cmpR a b
  | [], [] => rfl
  | [], _ :: _ => rfl
  | _ :: _, [] => rfl
  | a :: r, b :: s => by
    obtain ⟨h1, _, _, _⟩ := cmp2_facts a b
    rw [cmpR_cons, cmpR_cons, h1]
    by_cases h : cmp2 a b = 0
    · rw [if_pos (by omega), if_pos h]; exact cmpR_swap r s
    · rw [if_neg (by omega), if_neg h]
theorem cmpR_rng : ∀ a b : List Val, -1 ≤ cmpR a b ∧ cmpR a b ≤ 1
  | [], [] => by decide
  | [], _ :: _ => by unfold cmpR; decide
  | _ :: _, [] => by unfold cmpR; decide
  | a :: r, b :: s => by
    obtain ⟨_, h2, h3, _⟩ := cmp2_facts a b
    rw [cmpR_cons]
    split
    · exact cmpR_rng r s
    · exact ⟨h2, h3⟩
theorem cmpR_zero : ∀ a b : List Val, cmpR a b = 0 ↔ a = b
  | [], [] => by simp [cmpR]
  | [], _ :: _ => by simp [cmpR]
  | _ :: _, [] => by simp [cmpR]
  | a :: r, b :: s => by
    obtain ⟨_, _, _, h4⟩ := cmp2_facts a b
    rw [cmpR_cons]
    by_cases h : cmp2 a b = 0
    · rw [if_pos h, cmpR_zero r s, List.cons.injEq]
      exact ⟨fun e => ⟨h4.1 h, e⟩, fun e => e.2⟩
    · rw [if_neg h]
      exact ⟨fun e => absurd e h, fun e => by injection e with e _; exact absurd (h4.2 e) h⟩
theorem cmpR_trans : ∀ a b c : List Val, cmpR a b ≤ 0 → cmpR b c ≤ 0 → cmpR a c ≤ 0
  | [], _, [], _, _ => by decide
  | [], _, _ :: _, _, _ => by unfold cmpR; decide
  | x :: a, [], c, h, _ => by unfold cmpR at h; exact absurd h (by decide)
  | x :: a, y :: b, [], _, h => by unfold cmpR at h; exact absurd h (by decide)
  | x :: a, y :: b, z :: c, h1, h2 => by
    rw [cmpR_cons] at h1 h2 ⊢
    obtain ⟨x1, x2, x3, x4⟩ := cmp2_facts x y
    obtain ⟨y1, y2, y3, y4⟩ := cmp2_facts y z
    obtain ⟨z1, z2, z3, z4⟩ := cmp2_facts x z
    by_cases hx : cmp2 x y = 0
    · rw [if_pos hx] at h1
      obtain rfl := x4.1 hx
      by_cases hy : cmp2 x z = 0
      · rw [if_pos hy] at h2 ⊢
        exact cmpR_trans a b c h1 h2
      · rw [if_neg hy] at h2 ⊢; exact h2
    · rw [if_neg hx] at h1
      have hyz : cmp2 y z ≤ 0 := by
        by_cases hy : cmp2 y z = 0
        · omega
        · rw [if_neg hy] at h2; exact h2
      have hxz := cmp2_trans x y z h1 hyz
      by_cases hz : cmp2 x z = 0
      · exfalso
        obtain rfl := z4.1 hz
        omega
      · rw [if_neg hz]; exact hxz
/-- Does a row stand ahead of another one? -/
def lessR (a b : List Val) : Bool := decide (cmpR a b < 0)
theorem ordR : St.Ord lessR fun _ => True := by
  refine ⟨fun x y z _ _ _ h1 h2 => ?_, fun x y _ _ => ?_, fun x y _ _ h => ?_⟩
  · unfold St.le lessR at *
    rw [decide_eq_false_iff_not] at *
    have e1 := cmpR_swap x y
    have e2 := cmpR_swap y z
    have e3 := cmpR_swap x z
    have := cmpR_trans x y z (by omega) (by omega)
    omega
  · unfold St.le lessR
    rw [decide_eq_false_iff_not, decide_eq_false_iff_not]
    have := cmpR_swap x y
    omega
  · unfold lessR at *
    rw [decide_eq_true_eq] at h
    rw [decide_eq_false_iff_not]
    have := cmpR_swap x y
    omega
theorem antiR (x y : List Val) (h1 : St.le lessR x y) (h2 : St.le lessR y x) : x = y := by
  unfold St.le lessR at *
  rw [decide_eq_false_iff_not] at *
  have := cmpR_swap x y
  exact (cmpR_zero x y).1 (by omega)
end Go.Proofs.YtfmjeggomphliaaGreatDoor.Tb
