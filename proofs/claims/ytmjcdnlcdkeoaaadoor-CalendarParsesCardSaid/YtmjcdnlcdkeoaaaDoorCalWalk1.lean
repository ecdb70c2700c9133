/- Walks: leap years, days of a month, years as days. -/
import Derived.Test.YtmjcdnlcdkeoaaaDoorRows
import Derived.Test.YtmjcdnlcdkeoaaaDoorCalMath
import Derived.WalkKit
import Derived.ProofKit
import Derived.WalkLawsBesides
import Derived.WalkSpells
import Derived.Handy
import Derived.Lib.Hide
import Derived.Deep.QuietTactic
import Derived.BigQuiet
set_option linter.unusedVariables false
namespace Go.Proofs.YtmjcdnlcdkeoaaaDoor.Cal
open Go.RowKit Go

theorem ret_int {k : IntKind} {a b : Int} (h : a = b) : Ending.returned (.int k a) = .returned (.int k b) := by rw [h]
theorem ret_bool {a b : Bool} (h : a = b) : Ending.returned (.bool a) = .returned (.bool b) := by rw [h]
theorem tmod0 (y k : Int) : (y.tmod k = 0) ↔ (y % k = 0) := by
  rw [← Int.dvd_iff_tmod_eq_zero, Int.dvd_iff_emod_eq_zero]

theorem leapB_of {y : Int} (b : Bool) (h : (y % 4 = 0 ∧ (y % 100 ≠ 0 ∨ y % 400 = 0)) ↔ b = true) : b = leapB y := by
  rw [Bool.eq_iff_iff, ← h]; unfold leapB; simp
theorem leap_any (y : Int) (w : World) :
    Calls Tryd.prog 18 #[.int .i64 y] w fun e w' => e = .returned (.bool (leapB y)) ∧ w = w' := by
  have H4 := Lib.hid (tmod0 y 4)
  have H100 := Lib.hid (tmod0 y 100)
  have H400 := Lib.hid (tmod0 y 400)
  go_enter Tryd.func18, Tryd.ntmps18
  go_wp2
  all_goals go_ret
  all_goals refine ⟨ret_bool (leapB_of _ ?_), rfl⟩
  all_goals have h4 := H4.out
  all_goals have h100 := H100.out
  all_goals have h400 := H400.out
  all_goals simp_all
theorem refLeap_any (y : Int) (w : World) :
    Calls Tryd.prog 16 #[.int .i64 y] w fun e w' => e = .returned (.bool (leapB y)) ∧ w = w' := by
  have H4 := Lib.hid (tmod0 y 4)
  have H100 := Lib.hid (tmod0 y 100)
  have H400 := Lib.hid (tmod0 y 400)
  go_enter Tryd.func16, Tryd.ntmps16
  go_wp2
  all_goals go_ret
  all_goals refine ⟨ret_bool (leapB_of _ ?_), rfl⟩
  all_goals have h4 := H4.out
  all_goals have h100 := H100.out
  all_goals have h400 := H400.out
  all_goals simp_all
  all_goals omega
theorem leaps_any (n : Int) (w : World) (h0 : 0 ≤ n) (h1 : n ≤ 1000000) :
    Calls Tryd.prog 35 #[.int .i64 n] w fun e w' => e = .returned (.int .i64 (leaps n)) ∧ w = w' := by
  have H : Hid (leaps n = (n + 3) / 4 - (n + 99) / 100 + (n + 399) / 400) := rfl
  by_cases hn : n = 0
  · subst hn
    go_enter Tryd.func35, Tryd.ntmps35
    go_wp2
    go_ret
    exact ⟨ret_int (by rw [H.out]; rfl), rfl⟩
  · have hb : (n == 0) = false := by simpa using hn
    go_enter Tryd.func35, Tryd.ntmps35
    go_wp2
    go_ret
    exact ⟨ret_int (by rw [H.out]; omega), rfl⟩
theorem yearStart_any (n : Int) (w : World) (h0 : 0 ≤ n) (h1 : n ≤ 1000000) :
    Calls Tryd.prog 31 #[.int .i64 n] w fun e w' => e = .returned (.int .i64 (ys n)) ∧ w = w' := by
  have hl : 0 ≤ leaps n ∧ leaps n ≤ 1000000 := by unfold leaps; omega
  obtain ⟨l0, l1⟩ := hl
  go_enter Tryd.func31, Tryd.ntmps31
  go_wp2_with (go_at_call 35; refine (leaps_any _ _ h0 h1).mono ?_; rintro e w' ⟨rfl, rfl⟩)
  go_ret
  exact ⟨rfl, rfl⟩

/-- The table of the months' lengths lies where it was laid. -/
structure Len (w : World) : Prop where
  c0 : w.cell? ⟨0, 0, none⟩ = some (.int .i64 0)
  c1 : w.cell? ⟨0, 1, none⟩ = some (.int .i64 31)
  c2 : w.cell? ⟨0, 2, none⟩ = some (.int .i64 28)
  c3 : w.cell? ⟨0, 3, none⟩ = some (.int .i64 31)
  c4 : w.cell? ⟨0, 4, none⟩ = some (.int .i64 30)
  c5 : w.cell? ⟨0, 5, none⟩ = some (.int .i64 31)
  c6 : w.cell? ⟨0, 6, none⟩ = some (.int .i64 30)
  c7 : w.cell? ⟨0, 7, none⟩ = some (.int .i64 31)
  c8 : w.cell? ⟨0, 8, none⟩ = some (.int .i64 31)
  c9 : w.cell? ⟨0, 9, none⟩ = some (.int .i64 30)
  c10 : w.cell? ⟨0, 10, none⟩ = some (.int .i64 31)
  c11 : w.cell? ⟨0, 11, none⟩ = some (.int .i64 30)
  c12 : w.cell? ⟨0, 12, none⟩ = some (.int .i64 31)
theorem Len.cell {w : World} (h : Len w) (m : Nat) (h1 : 1 ≤ m) (h2 : m ≤ 12) (h3 : m ≠ 2) (y : Int) :
    w.cell? ⟨0, m, none⟩ = some (.int .i64 (dim y m)) := by
  obtain ⟨c0, c1, c2, c3, c4, c5, c6, c7, c8, c9, c10, c11, c12⟩ := h
  rcases (by omega : m = 1 ∨ m = 3 ∨ m = 4 ∨ m = 5 ∨ m = 6 ∨ m = 7 ∨ m = 8 ∨ m = 9 ∨ m = 10 ∨ m = 11 ∨ m = 12) with rfl | rfl | rfl | rfl | rfl | rfl | rfl | rfl | rfl | rfl | rfl <;> simpa [dim]

theorem days_any (y m : Int) (w : World) (hL : Len w) :
    Calls Tryd.prog 17 #[.int .i64 y, .int .i64 m] w fun e w' => e = .returned (.int .i64 (dim y m)) ∧ w = w' := by
  have HL := Lib.hid hL
  clear hL
  by_cases h1 : m < 1
  · go_enter Tryd.func17, Tryd.ntmps17
    go_wp2_with fail
    go_ret
    exact ⟨ret_int (by unfold dim; rw [if_pos (Or.inl h1)]), rfl⟩
  by_cases h12 : 12 < m
  · go_enter Tryd.func17, Tryd.ntmps17
    go_wp2_with fail
    go_ret
    exact ⟨ret_int (by unfold dim; rw [if_pos (Or.inr h12)]), rfl⟩
  by_cases h2 : m = 2
  · subst h2
    have c2 := HL.out.c2
    by_cases hl : leapB y = true
    · go_enter Tryd.func17, Tryd.ntmps17
      go_wp2_with (go_at_call 18; refine (leap_any _ _).mono ?_; rintro e w' ⟨rfl, rfl⟩)
      go_ret
      exact ⟨ret_int (by simp [dim, lp, hl]), rfl⟩
    · have hl' : leapB y = false := by simpa using hl
      go_enter Tryd.func17, Tryd.ntmps17
      go_wp2_with (go_at_call 18; refine (leap_any _ _).mono ?_; rintro e w' ⟨rfl, rfl⟩)
      go_ret
      exact ⟨ret_int (by simp [dim, lp, hl']), rfl⟩
  · obtain ⟨k, rfl⟩ : ∃ k : Nat, m = k := ⟨m.toNat, by omega⟩
    have hc := HL.out.cell k (by omega) (by omega) (by omega) y
    have hb : ((k : Int) == 2) = false := by simpa using h2
    go_enter Tryd.func17, Tryd.ntmps17
    go_wp2_with fail
    go_ret
    exact ⟨rfl, rfl⟩
theorem refDays_any (y m : Int) (w : World) (h1 : 1 ≤ m) (h2 : m ≤ 12) :
    Calls Tryd.prog 15 #[.int .i64 y, .int .i64 m] w fun e w' => e = .returned (.int .i64 (dim y m)) ∧ w = w' := by
  by_cases hm : m = 2
  · subst hm
    by_cases hl : leapB y = true
    · go_enter Tryd.func15, Tryd.ntmps15
      go_wp2_with (go_at_call 16; refine (refLeap_any _ _).mono ?_; rintro e w' ⟨rfl, rfl⟩)
      go_ret
      exact ⟨ret_int (by simp [dim, lp, hl]), rfl⟩
    · have hl' : leapB y = false := by simpa using hl
      clear hl
      go_enter Tryd.func15, Tryd.ntmps15
      go_wp2_with (go_at_call 16; refine (refLeap_any _ _).mono ?_; rintro e w' ⟨rfl, rfl⟩)
      go_ret
      exact ⟨ret_int (by simp [dim, lp, hl']), rfl⟩
  by_cases h3 : m = 4 ∨ m = 6 ∨ m = 9 ∨ m = 11
  · rcases h3 with rfl | rfl | rfl | rfl
    all_goals
      go_enter Tryd.func15, Tryd.ntmps15
      go_wp2_with fail
      go_ret
      exact ⟨ret_int (by simp [dim]), rfl⟩
  · have b2 : (m == 2) = false := by simpa using hm
    have b4 : (m == 4) = false := by simp; omega
    have b6 : (m == 6) = false := by simp; omega
    have b9 : (m == 9) = false := by simp; omega
    have b11 : (m == 11) = false := by simp; omega
    have HF : Hid (dim y m = 31) := by show dim y m = 31; unfold dim; rw [if_neg (by omega), if_neg hm, if_neg h3]
    clear hm h3
    go_enter Tryd.func15, Tryd.ntmps15
    go_wp2_with fail
    go_ret
    exact ⟨ret_int HF.out.symm, rfl⟩
end Go.Proofs.YtmjcdnlcdkeoaaaDoor.Cal
