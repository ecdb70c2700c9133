/- Plain facts on 64-bit integers: sums, products, quotients that go round. No program in sight. -/
import Derived.Test.YtedpgeilamhipaaDoorBase
set_option linter.unusedVariables false
namespace Go.Proofs.YtedpgeilamhipaaDoor.Va
open Go.RowKit

/-- Does an int hold it? -/
def In64 (x : Int) : Prop := -9223372036854775808 ≤ x ∧ x ≤ 9223372036854775807
theorem wrap_in {x : Int} (h : In64 x) : wrap64 x = x := by unfold In64 at h; unfold wrap64; omega
theorem wrap_rng (x : Int) : In64 (wrap64 x) := by unfold In64 wrap64; omega
theorem wrap_k (x : Int) : ∃ k : Int, wrap64 x = x + k * 18446744073709551616 := ⟨-((x + 9223372036854775808) / 18446744073709551616), by unfold wrap64; omega⟩

/-- A sum that goes round lies on the wrong side. -/
theorem add_over {a b : Int} (ha : In64 a) (hb : In64 b) (h : 9223372036854775807 < a + b) : wrap64 (a + b) < a ∧ 0 < b := by
  unfold In64 at *; unfold wrap64; omega
theorem add_under {a b : Int} (ha : In64 a) (hb : In64 b) (h : a + b < -9223372036854775808) : a < wrap64 (a + b) ∧ b < 0 := by
  unfold In64 at *; unfold wrap64; omega
theorem sub_over {a b : Int} (ha : In64 a) (hb : In64 b) (h : 9223372036854775807 < a - b) : wrap64 (a - b) < a ∧ b < 0 := by
  unfold In64 at *; unfold wrap64; omega
theorem sub_under {a b : Int} (ha : In64 a) (hb : In64 b) (h : a - b < -9223372036854775808) : a < wrap64 (a - b) ∧ 0 < b := by
  unfold In64 at *; unfold wrap64; omega

theorem tdiv_bd {a b : Int} (ha : In64 a) (hb : b ≠ 0) (h : ¬ (a = -9223372036854775808 ∧ b = -1)) : In64 (a.tdiv b) := by
  unfold In64 at *
  have e : (a.tdiv b).natAbs = a.natAbs / b.natAbs := Int.natAbs_tdiv a b
  have l : a.natAbs / b.natAbs ≤ a.natAbs := Nat.div_le_self _ _
  by_cases h1 : a = -9223372036854775808
  · have hb1 : b ≠ -1 := fun hx => h ⟨h1, hx⟩
    by_cases h2 : b = 1
    · subst h2; rw [Int.tdiv_one]; omega
    · have : 2 ≤ b.natAbs := by omega
      have : a.natAbs / b.natAbs ≤ a.natAbs / 2 := Nat.div_le_div_left this (by decide)
      omega
  · omega
theorem tmod_bd {a b : Int} (ha : In64 a) (hb : b ≠ 0) : In64 (a.tmod b) := by
  unfold In64 at *
  have e : (a.tmod b).natAbs = a.natAbs % b.natAbs := Int.natAbs_tmod a b
  have l : a.natAbs % b.natAbs ≤ a.natAbs := Nat.mod_le _ _
  by_cases h0 : 0 ≤ a
  · have := Int.tmod_nonneg b h0; omega
  · have : a.tmod b ≤ 0 := by
      have := Int.tmod_nonneg b (show 0 ≤ -a by omega)
      rw [Int.neg_tmod] at this; omega
    omega

/-- A product that goes round isn't divided back. -/
theorem mul_back {a b : Int} (ha : In64 a) (hb : In64 b) (hb0 : b ≠ 0) (hn : ¬ (b = -1 ∧ wrap64 (a * b) = -9223372036854775808)) : (wrap64 (a * b)).tdiv b = a ↔ In64 (a * b) := by
  constructor
  · intro h
    obtain ⟨k, hk⟩ := wrap_k (a * b)
    have r := wrap_rng (a * b)
    have d := Int.tmod_add_mul_tdiv (wrap64 (a * b)) b
    rw [h] at d
    have m : ((wrap64 (a * b)).tmod b).natAbs = (wrap64 (a * b)).natAbs % b.natAbs := Int.natAbs_tmod _ b
    have lt : (wrap64 (a * b)).natAbs % b.natAbs < b.natAbs := Nat.mod_lt _ (by omega)
    have e : (wrap64 (a * b)).tmod b = k * 18446744073709551616 := by
      have : b * a = a * b := Int.mul_comm b a
      omega
    have k0 : k = 0 := by
      unfold In64 at hb
      rw [e] at m
      omega
    subst k0
    unfold In64 at *
    omega
  · intro h
    rw [wrap_in h, Int.mul_tdiv_cancel _ hb0]
end Go.Proofs.YtedpgeilamhipaaDoor.Va
