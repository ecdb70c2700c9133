/- Walks: where a partition begins; which schemes are right. -/
import Derived.Test.YtkapkfddbdgmoaaDoorSchCal
import Derived.Test.YtkapkfddbdgmoaaDoorQuiet
import Derived.BigQuiet
set_option linter.unusedVariables false
set_option linter.unusedSimpArgs false
namespace Go.Proofs.YtkapkfddbdgmoaaDoor.Sc
open Go.RowKit Go Go.Sort Ba
open Cal hiding ret_int ret_bool lt_of_cell

/-- Too far is -1. -/
def lim (x : Int) : Int := if 2147483648 ≤ x then -1 else x
/-- Where a partition begins. -/
def startV (k i : Int) : Int :=
  if k = 1 then lim (60 * i) else if k = 2 then lim (1440 * i) else if k = 3 then lim (2880 + 10080 * i) else if k = 4 then (if 0 ≤ i ∧ i ≤ 60000 ∧ md i * 1440 < 2147483648 then md i * 1440 else -1) else -1
theorem sv1 (i : Int) : startV 1 i = lim (60 * i) := rfl
theorem sv2 (i : Int) : startV 2 i = lim (1440 * i) := rfl
theorem sv3 (i : Int) : startV 3 i = lim (2880 + 10080 * i) := rfl
theorem sv4 (i : Int) : startV 4 i = if 0 ≤ i ∧ i ≤ 60000 ∧ md i * 1440 < 2147483648 then md i * 1440 else -1 := rfl
theorem sv5 {k i : Int} (h1 : k ≠ 1) (h2 : k ≠ 2) (h3 : k ≠ 3) (h4 : k ≠ 4) : startV k i = -1 := by
  unfold startV; rw [if_neg h1, if_neg h2, if_neg h3, if_neg h4]
theorem lim_lo {x : Int} (h : ¬ 2147483648 ≤ x) : lim x = x := by unfold lim; rw [if_neg h]
theorem lim_hi {x : Int} (h : 2147483648 ≤ x) : lim x = -1 := by unfold lim; rw [if_pos h]
theorem sv_rng (k i : Int) (h : 0 ≤ i) : -1 ≤ startV k i ∧ startV k i < 2147483648 := by
  by_cases h1 : k = 1
  · subst h1; rw [sv1]; unfold lim; split <;> omega
  by_cases h2 : k = 2
  · subst h2; rw [sv2]; unfold lim; split <;> omega
  by_cases h3 : k = 3
  · subst h3; rw [sv3]; unfold lim; split <;> omega
  by_cases h4 : k = 4
  · subst h4; rw [sv4]
    have := md_bd i h
    split <;> omega
  rw [sv5 h1 h2 h3 h4]; omega

set_option maxHeartbeats 800000 in
theorem start_is (k f l i q : Int) (w : World) (hL : Len w) (h0 : 0 ≤ i) (h1 : i ≤ 2147483648) (hq : startV k i = q) :
    Calls Tryd.prog 40 #[.agg #[.int .i64 k, .int .i64 f, .int .i64 l], .int .i64 i] w fun e w' => e = .returned (.int .i64 q) ∧ Below w.heap.size w w' := by
  have HL := Lib.hid (Len.below hL (show Below w.heap.size w (w.alloc (.cells #[.int .i64 k, .int .i64 f, .int .i64 l] 23)) by go_grown))
  clear hL
  by_cases k1 : k = 1
  · subst k1
    rw [sv1] at hq
    by_cases hf : 2147483648 ≤ 60 * i
    · rw [lim_hi hf] at hq
      subst hq
      go_enter Tryd.func40, Tryd.ntmps40
      go_wp2_with fail
      go_ret
      exact ⟨rfl, by go_grown⟩
    · rw [lim_lo hf] at hq
      subst hq
      go_enter Tryd.func40, Tryd.ntmps40
      go_wp2_with fail
      go_ret
      exact ⟨ret_int (by omega), by go_grown⟩
  have e1 : (k == 1) = false := by simpa using k1
  by_cases k2 : k = 2
  · subst k2
    rw [sv2] at hq
    by_cases hf : 2147483648 ≤ 1440 * i
    · rw [lim_hi hf] at hq
      subst hq
      go_enter Tryd.func40, Tryd.ntmps40
      go_wp2_with fail
      go_ret
      exact ⟨rfl, by go_grown⟩
    · rw [lim_lo hf] at hq
      subst hq
      go_enter Tryd.func40, Tryd.ntmps40
      go_wp2_with fail
      go_ret
      exact ⟨ret_int (by omega), by go_grown⟩
  have e2 : (k == 2) = false := by simpa using k2
  by_cases k3 : k = 3
  · subst k3
    rw [sv3] at hq
    by_cases hf : 2147483648 ≤ 2880 + 10080 * i
    · rw [lim_hi hf] at hq
      subst hq
      go_enter Tryd.func40, Tryd.ntmps40
      go_wp2_with fail
      go_ret
      exact ⟨rfl, by go_grown⟩
    · rw [lim_lo hf] at hq
      subst hq
      go_enter Tryd.func40, Tryd.ntmps40
      go_wp2_with fail
      go_ret
      exact ⟨ret_int (by omega), by go_grown⟩
  have e3 : (k == 3) = false := by simpa using k3
  by_cases k4 : k = 4
  · subst k4
    have hr := sv_rng 4 i h0
    rw [hq] at hr
    obtain ⟨r0, r1⟩ := hr
    rw [sv4] at hq
    have HQ := Lib.hid hq
    clear hq
    go_enter Tryd.func40, Tryd.ntmps40
    go_wp2_with fail
    refine (start_any i q _ HL.out HQ.out).mono ?_
    rintro e w1 ⟨rfl, rfl⟩
    go_wp2_with fail
    go_ret
    exact ⟨rfl, by go_grown⟩
  have e4 : (k == 4) = false := by simpa using k4
  rw [sv5 k1 k2 k3 k4] at hq
  subst hq
  clear k1 k2 k3 k4
  go_enter Tryd.func40, Tryd.ntmps40
  go_wp2_with fail
  go_ret
  exact ⟨rfl, by go_grown⟩

theorem tdiv12 {n : Int} (h : 0 ≤ n) : n.tdiv 12 = n / 12 := Int.tdiv_eq_ediv_of_nonneg h
set_option maxHeartbeats 800000 in
theorem refStart_is (k i q : Int) (w : World) (h0 : 0 ≤ i) (h1 : i ≤ 2147483648) (hq : startV k i = q) :
    Calls Tryd.prog 19 #[.int .i64 k, .int .i64 i] w fun e w' => e = .returned (.int .i64 q) ∧ w' = w := by
  by_cases k1 : k = 1
  · subst k1
    rw [sv1] at hq
    by_cases hf : 2147483648 ≤ 60 * i
    · rw [lim_hi hf] at hq
      subst hq
      go_enter Tryd.func19, Tryd.ntmps19
      go_wp2_with fail
      go_ret
      exact ⟨rfl, rfl⟩
    · rw [lim_lo hf] at hq
      subst hq
      go_enter Tryd.func19, Tryd.ntmps19
      go_wp2_with fail
      go_ret
      exact ⟨rfl, rfl⟩
  have e1 : (k == 1) = false := by simpa using k1
  by_cases k2 : k = 2
  · subst k2
    rw [sv2] at hq
    by_cases hf : 2147483648 ≤ 1440 * i
    · rw [lim_hi hf] at hq
      subst hq
      go_enter Tryd.func19, Tryd.ntmps19
      go_wp2_with fail
      go_ret
      exact ⟨rfl, rfl⟩
    · rw [lim_lo hf] at hq
      subst hq
      go_enter Tryd.func19, Tryd.ntmps19
      go_wp2_with fail
      go_ret
      exact ⟨rfl, rfl⟩
  have e2 : (k == 2) = false := by simpa using k2
  by_cases k3 : k = 3
  · subst k3
    rw [sv3] at hq
    by_cases hf : 2147483648 ≤ 2880 + 10080 * i
    · rw [lim_hi hf] at hq
      subst hq
      go_enter Tryd.func19, Tryd.ntmps19
      go_wp2_with fail
      go_ret
      exact ⟨rfl, rfl⟩
    · rw [lim_lo hf] at hq
      subst hq
      go_enter Tryd.func19, Tryd.ntmps19
      go_wp2_with fail
      go_ret
      exact ⟨rfl, rfl⟩
  have e3 : (k == 3) = false := by simpa using k3
  by_cases k4 : k = 4
  · subst k4
    rw [sv4] at hq
    by_cases hi : 50000 < i
    · rw [if_neg (by have := md_far i (by omega); omega)] at hq
      subst hq
      go_enter Tryd.func19, Tryd.ntmps19
      go_wp2_with fail
      go_ret
      exact ⟨rfl, rfl⟩
    · have HQ : Hid (lim (1440 * md i) = q) := by
        show lim (1440 * md i) = q
        rw [← hq]
        unfold lim
        split
        · rw [if_neg (by omega)]
        · rw [if_pos (by omega)]; omega
      clear hq
      go_enter Tryd.func19, Tryd.ntmps19
      go_wp2_with fail
      go_loop [6, 7] (fun d j => ∃ n : Int, 0 ≤ n ∧ n ≤ i ∧ j = .int .i64 n ∧ d = .int .i64 (md n)) (fun _ j => (i - intOf j).toNat)
      case atStart => exact ⟨0, by omega, by omega, rfl, by rw [md_zero]⟩
      case round =>
        obtain ⟨n, hn0, hn1, rfl, rfl⟩ := hrel
        have hb := md_bd n hn0
        have hy := ys_bd (n / 12) (by omega)
        have b0 : 0 ≤ md n := hb.1
        have b1 : md n ≤ 2000000 := by omega
        clear hb hy
        by_cases hlt : n < i
        · have hs := md_succ (n + 1) (by omega)
          rw [show n + 1 - 1 = n from by omega] at hs
          have HS := Lib.hid hs
          have hd := dim_bd (2000 + n / 12) (n % 12 + 1)
          obtain ⟨d0, d1⟩ := hd
          have r0 : 1 ≤ n % 12 + 1 := by omega
          have r1 : n % 12 + 1 ≤ 12 := by omega
          clear hs
          go_wp2_with (go_at_call 41; refine (refDays_any _ _ _ (by omega) (by omega)).mono ?_; rintro e w' ⟨rfl, rfl⟩)
          go_round
          case rel => exact ⟨n + 1, by omega, by omega, rfl, by rw [HS.out]⟩
          case measure => simp [intOf]; omega
        · have hk : n = i := by omega
          subst hk
          by_cases hf : 2147483648 ≤ 1440 * md n
          · have HR : Hid (q = -1) := by show q = -1; rw [← HQ.out, lim_hi hf]
            go_wp2_with fail
            go_ret
            exact ⟨ret_int HR.out.symm, rfl⟩
          · have HR : Hid (q = 1440 * md n) := by show q = 1440 * md n; rw [← HQ.out, lim_lo hf]
            go_wp2_with fail
            go_ret
            exact ⟨ret_int HR.out.symm, rfl⟩
  have e4 : (k == 4) = false := by simpa using k4
  rw [sv5 k1 k2 k3 k4] at hq
  subst hq
  clear k1 k2 k3 k4
  go_enter Tryd.func19, Tryd.ntmps19
  go_wp2_with fail
  go_ret
  exact ⟨rfl, rfl⟩
end Go.Proofs.YtkapkfddbdgmoaaDoor.Sc
