/- The law on the order: all together. -/
import Derived.Test.YtedpgeilamhipaaDoorOrdersWalk
set_option linter.unusedVariables false
set_option linter.unusedSimpArgs false
namespace Go.Proofs.YtedpgeilamhipaaDoor.Va
open Go.RowKit Go Ba

theorem cb_swap : ∀ (a b : List UInt8), Lib.compareBytes b a = - Lib.compareBytes a b
  | [], [] => rfl
  | [], _ :: _ => rfl
  | _ :: _, [] => rfl
  | x :: a, y :: b => by
    have ih := cb_swap a b
    unfold Lib.compareBytes
    by_cases h1 : x < y
    · have h2 : ¬ y < x := by rw [UInt8.lt_iff_toNat_lt] at *; omega
      rw [if_pos h1, if_neg h2, if_pos h1]; decide
    · by_cases h2 : y < x
      · rw [if_pos h2, if_neg h1, if_pos h2]
      · rw [if_neg h2, if_neg h1, if_neg h1, if_neg h2]; exact ih
theorem cb_rng : ∀ (a b : List UInt8), -1 ≤ Lib.compareBytes a b ∧ Lib.compareBytes a b ≤ 1
  | [], [] => by decide
  | [], _ :: _ => by unfold Lib.compareBytes; decide
  | _ :: _, [] => by unfold Lib.compareBytes; decide
  | x :: a, y :: b => by
    have ih := cb_rng a b
    unfold Lib.compareBytes
    by_cases h1 : x < y
    · rw [if_pos h1]; decide
    · by_cases h2 : y < x
      · rw [if_neg h1, if_pos h2]; decide
      · rw [if_neg h1, if_neg h2]; exact ih
theorem cb_zero : ∀ (a b : List UInt8), Lib.compareBytes a b = 0 ↔ a = b
  | [], [] => by simp [Lib.compareBytes]
  | [], _ :: _ => by simp [Lib.compareBytes]
  | _ :: _, [] => by simp [Lib.compareBytes]
  | x :: a, y :: b => by
    have ih := cb_zero a b
    unfold Lib.compareBytes
    by_cases h1 : x < y
    · rw [if_pos h1]
      refine ⟨fun h => absurd h (by decide), fun h => ?_⟩
      injection h with h _
      subst h
      rw [UInt8.lt_iff_toNat_lt] at h1; omega
    · by_cases h2 : y < x
      · rw [if_neg h1, if_pos h2]
        refine ⟨fun h => absurd h (by decide), fun h => ?_⟩
        injection h with h _
        subst h
        rw [UInt8.lt_iff_toNat_lt] at h2; omega
      · rw [if_neg h1, if_neg h2, ih]
        have : x = y := by rw [UInt8.lt_iff_toNat_lt] at h1 h2; exact UInt8.toNat_inj.1 (by omega)
        subst this
        simp
theorem cv_facts (ka na : Int) (sa : ByteArray) (kb nb : Int) (sb : ByteArray) :
    cmpV kb nb sb ka na sa = - cmpV ka na sa kb nb sb ∧ -1 ≤ cmpV ka na sa kb nb sb ∧ cmpV ka na sa kb nb sb ≤ 1 ∧ (cmpV ka na sa kb nb sb = 0 ↔ ka = kb ∧ na = nb ∧ sa = sb) := by
  by_cases hk : ka = kb
  · subst hk
    by_cases hn : na = nb
    · subst hn
      rw [cv_text, cv_text, cb_zero]
      refine ⟨cb_swap _ _, (cb_rng _ _).1, (cb_rng _ _).2, ?_⟩
      simp only [true_and]
      exact ⟨fun h => Go.WideShapes.bytes_inj h, fun h => by rw [h]⟩
    · rw [cv_num hn, cv_num (fun h => hn h.symm)]
      by_cases g : na < nb
      · rw [if_pos g, if_neg (by omega)]
        exact ⟨rfl, by decide, by decide, ⟨fun h => absurd h (by decide), fun h => absurd h.2.1 hn⟩⟩
      · rw [if_neg g, if_pos (by omega)]
        exact ⟨rfl, by decide, by decide, ⟨fun h => absurd h (by decide), fun h => absurd h.2.1 hn⟩⟩
  · rw [cv_kind hk, cv_kind (fun h => hk h.symm)]
    by_cases g : ka < kb
    · rw [if_pos g, if_neg (by omega)]
      exact ⟨rfl, by decide, by decide, ⟨fun h => absurd h (by decide), fun h => absurd h.1 hk⟩⟩
    · rw [if_neg g, if_pos (by omega)]
      exact ⟨rfl, by decide, by decide, ⟨fun h => absurd h (by decide), fun h => absurd h.1 hk⟩⟩
theorem orders_law (ka na : Int) (sa : ByteArray) (kb nb : Int) (sb : ByteArray) (w : World) (ha : sa.size ≤ 9223372036854775807) (hb : sb.size ≤ 9223372036854775807) (hE : Env w) :
    Calls Tryd.prog 8 #[.agg #[.int .i64 ka, .int .i64 na, .string sa], .agg #[.int .i64 kb, .int .i64 nb, .string sb]] w fun e w' => e = .returned (.bool true) ∧ Below w.heap.size w w' := by
  by_cases l1 : 200 < sa.size
  · exact orders_la ka na sa kb nb sb w ha hb hE l1
  by_cases l2 : 200 < sb.size
  · exact orders_lb ka na sa kb nb sb w ha hb hE (by omega) l2
  have m1 : sa.size ≤ 200 := by omega
  have m2 : sb.size ≤ 200 := by omega
  cases ra : rightB ka na sa
  · exact orders_ra ka na sa kb nb sb w ha hb hE m1 m2 ra
  cases rb : rightB kb nb sb
  · exact orders_rb ka na sa kb nb sb w ha hb hE m1 m2 ra rb
  obtain ⟨f1, f2, f3, f4⟩ := cv_facts ka na sa kb nb sb
  cases hk : (ka == 1)
  · exact orders_o ka na sa kb nb sb w ha hb hE m1 m2 ra rb _ rfl f1 f2 f3 (cmpV ka na sa kb nb sb == 0) (by rw [← f4]; simp) rfl hk
  · exact orders_k ka na sa kb nb sb w ha hb hE m1 m2 ra rb _ rfl f1 f2 f3 (cmpV ka na sa kb nb sb == 0) (by rw [← f4]; simp) rfl hk _ rfl
end Go.Proofs.YtedpgeilamhipaaDoor.Va
