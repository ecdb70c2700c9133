/- Plain facts on decimal numerals: what is written is read back. No program in sight. -/
import Derived.Test.YtfmjeggomphliaaGreatDoorBase
import Derived.Lib.AtoiAllCases
import Derived.Lib.ItoaLen
import Derived.Lib.ItoaMem
set_option linter.unusedVariables false
namespace Go.Proofs.YtfmjeggomphliaaGreatDoor.Nu
open Go.Lib

theorem dig_nat (d : Nat) (h : d < 10) : (UInt8.ofNat (48 + d)).toNat = 48 + d := by
  rw [UInt8.toNat_ofNat']
  omega
/-- A digit. -/
def isDig (c : UInt8) : Bool := decide (48 ≤ c.toNat ∧ c.toNat ≤ 57)
theorem dig_is (d : Nat) (h : d < 10) : isDig (UInt8.ofNat (48 + d)) = true := by
  unfold isDig; rw [dig_nat d h]; simp; omega
theorem dec_all (u : Nat) : (decDigits u).all isDig = true := by
  induction u using Nat.strongRecOn with
  | _ u ih =>
    rw [decDigits]
    split
    · rename_i h
      rw [List.all_cons, dig_is u h]; rfl
    · rename_i h
      rw [List.all_append, ih (u / 10) (by omega)]
      rw [List.all_cons, dig_is (u % 10) (by omega)]; rfl
theorem dec_ne (u : Nat) : decDigits u ≠ [] := by
  rw [decDigits]; split <;> simp
theorem dec_cons (u : Nat) : ∃ c r, decDigits u = c :: r ∧ isDig c = true := by
  have h1 := dec_ne u
  have h2 := dec_all u
  match h : decDigits u with
  | [] => exact absurd h h1
  | c :: r =>
    rw [h] at h2
    simp only [List.all_cons, Bool.and_eq_true] at h2
    exact ⟨c, r, rfl, h2.1⟩
theorem pu_app : ∀ (l r : List UInt8) (acc : Nat), parseUint10 acc (l ++ r) = match parseUint10 acc l with | .ok v => parseUint10 v r | e => e
  | [], r, acc => by simp [parseUint10]
  | c :: l, r, acc => by
    simp only [List.cons_append, parseUint10]
    split
    · split
      · rfl
      · split
        · rfl
        · exact pu_app l r _
    · rfl
theorem pu_one (v d : Nat) (hd : d < 10) (h : v * 10 + d < 18446744073709551616) : parseUint10 v [UInt8.ofNat (48 + d)] = .ok (v * 10 + d) := by
  simp only [parseUint10, dig_nat d hd]
  rw [if_pos (by omega), if_neg (by omega), if_neg (by omega)]
  congr 1
  omega
theorem pu_dec (u : Nat) (h : u < 18446744073709551616) : parseUint10 0 (decDigits u) = .ok u := by
  induction u using Nat.strongRecOn with
  | _ u ih =>
    rw [decDigits]
    split
    · rename_i h10
      rw [pu_one 0 u h10 (by omega)]
      congr 1
      omega
    · rename_i h10
      rw [pu_app, ih (u / 10) (by omega) (by omega)]
      show parseUint10 (u / 10) _ = _
      rw [pu_one (u / 10) (u % 10) (by omega) (by omega)]
      congr 1
      omega
theorem mag_dec (u : Nat) (h : u < 18446744073709551616) : parseMag (decDigits u) = .ok u := by
  unfold parseMag
  rw [if_neg (dec_ne u), pu_dec u h]
/-- What is written is read back. -/
theorem atoi_itoa (n : Int) (h0 : -9223372036854775808 ≤ n) (h1 : n ≤ 9223372036854775807) : atoiAll (itoa n) = .ok n := by
  by_cases hneg : n < 0
  · obtain ⟨u, rfl⟩ : ∃ u : Nat, n = -(u : Int) := ⟨n.natAbs, by omega⟩
    rw [itoa_neg u (by omega), atoiAll_minus, mag_dec u (by omega)]
    simp only [signed]
    rw [if_neg (by omega)]
  · obtain ⟨u, rfl⟩ : ∃ u : Nat, n = u := ⟨n.toNat, by omega⟩
    rw [itoa_nonneg]
    have hm := mag_dec u (by omega)
    obtain ⟨c, r, hc, hd⟩ := dec_cons u
    rw [hc] at hm ⊢
    unfold isDig at hd
    simp only [decide_eq_true_eq] at hd
    rw [atoiAll_plain c r (by omega) (by omega), hm]
    simp only [signless]
    rw [if_neg (by omega)]
/-- The first byte of a numeral: a digit, or the sign. -/
theorem itoa_head (n : Int) : ∃ c r, itoa n = c :: r ∧ (isDig c = true ∨ c = 45) := by
  by_cases hneg : n < 0
  · obtain ⟨u, rfl⟩ : ∃ u : Nat, n = -(u : Int) := ⟨n.natAbs, by omega⟩
    rw [itoa_neg u (by omega)]
    exact ⟨45, _, rfl, .inr rfl⟩
  · obtain ⟨u, rfl⟩ : ∃ u : Nat, n = u := ⟨n.toNat, by omega⟩
    rw [itoa_nonneg]
    obtain ⟨c, r, hc, hd⟩ := dec_cons u
    exact ⟨c, r, hc, .inl hd⟩
theorem itoa_inj {a b : Int} (ha : -9223372036854775808 ≤ a) (ha1 : a ≤ 9223372036854775807) (hb : -9223372036854775808 ≤ b) (hb1 : b ≤ 9223372036854775807) (h : itoa a = itoa b) : a = b := by
  have e1 := atoi_itoa a ha ha1
  rw [h, atoi_itoa b hb hb1] at e1
  injection e1 with e1
  exact e1.symm
/-- All bytes of a numeral. -/
theorem itoa_all (n : Int) (c : UInt8) (h : c ∈ itoa n) : isDig c = true ∨ c = 45 := by
  by_cases hneg : n < 0
  · obtain ⟨u, rfl⟩ : ∃ u : Nat, n = -(u : Int) := ⟨n.natAbs, by omega⟩
    rw [itoa_neg u (by omega)] at h
    rcases List.mem_cons.1 h with rfl | h
    · exact .inr rfl
    · exact .inl (List.all_eq_true.1 (dec_all u) c h)
  · obtain ⟨u, rfl⟩ : ∃ u : Nat, n = u := ⟨n.toNat, by omega⟩
    rw [itoa_nonneg] at h
    exact .inl (List.all_eq_true.1 (dec_all u) c h)
end Go.Proofs.YtfmjeggomphliaaGreatDoor.Nu
