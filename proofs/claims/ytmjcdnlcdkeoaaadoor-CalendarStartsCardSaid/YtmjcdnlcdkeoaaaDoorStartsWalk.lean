/- The walk of the law on the months' beginnings: it returns true at every month. -/
import Derived.Test.YtmjcdnlcdkeoaaaDoorCalWalk7
set_option linter.unusedVariables false
set_option linter.unusedSimpArgs false
namespace Go.Proofs.YtmjcdnlcdkeoaaaDoor.Cal
open Go.RowKit Go

theorem md_zero : md 0 = 0 := by decide
theorem md_bd (mm : Int) (h : 0 ≤ mm) : 0 ≤ md mm ∧ ys (mm / 12) ≤ md mm ∧ md mm ≤ ys (mm / 12) + 366 := by
  have := ys_lo (mm / 12) (by omega)
  have := cum_bd (2000 + mm / 12) (mm % 12 + 1) (by omega) (by omega)
  unfold md; omega
theorem md_succ (mm : Int) (h : 1 ≤ mm) : md mm = md (mm - 1) + dim (2000 + (mm - 1) / 12) ((mm - 1) % 12 + 1) := by
  by_cases c : mm % 12 = 0
  · have e1 : mm / 12 = (mm - 1) / 12 + 1 := by omega
    have e2 : (mm - 1) % 12 = 11 := by omega
    have s := ys_succ ((mm - 1) / 12) (by omega)
    have k := cum_succ (2000 + (mm - 1) / 12) 12 (by omega) (by omega)
    have ce := cum_end (2000 + (mm - 1) / 12)
    have co := cum_one (2000 + mm / 12)
    unfold md
    rw [e2, show (11 : Int) + 1 = 12 from rfl]
    rw [show (12 : Int) + 1 = 13 from rfl] at k
    rw [c, show (0 : Int) + 1 = 1 from rfl, co, e1]
    omega
  · have e1 : mm / 12 = (mm - 1) / 12 := by omega
    have e2 : mm % 12 = (mm - 1) % 12 + 1 := by omega
    have k := cum_succ (2000 + (mm - 1) / 12) ((mm - 1) % 12 + 1) (by omega) (by omega)
    unfold md
    rw [e2, e1, k]
    omega
theorem md_far (mm : Int) (h : 49000 < mm) : 2147483648 ≤ md mm * 1440 := by
  have b := md_bd mm (by omega)
  by_cases c : 4084 ≤ mm / 12
  · have m := ys_mono 4084 (mm / 12) (by omega) c
    have : ys 4084 = 1491651 := by decide
    omega
  · have e : mm / 12 = 4083 := by omega
    have hc := cum_mono (2000 + 4083) 6 (mm % 12 + 1) (by omega) (by omega) (by omega)
    have : ys 4083 = 1491286 := by decide
    have : cum (2000 + 4083) 6 = 151 := by decide
    unfold md
    rw [e]; omega
theorem md_near (mm : Int) (h0 : 0 ≤ mm) (h : mm ≤ 48990) : md mm * 1440 < 2147483648 := by
  have b := md_bd mm h0
  have m := ys_mono (mm / 12) 4082 (by omega) (by omega)
  have : ys 4082 = 1490921 := by decide
  omega
theorem start_no (mm : Int) (w : World) (hL : Len w) (h : mm < 0 ∨ 49000 < mm ∨ 2147483648 ≤ md mm * 1440) :
    Calls Tryd.prog 19 #[.int .i64 mm] w fun e w' => e = .returned (.int .i64 (-1)) ∧ w = w' := by
  have := monthStart_any mm w hL
  rw [if_neg] at this
  · exact this
  · rintro ⟨a, b, c⟩
    rcases h with h | h | h
    · omega
    · have := md_far mm h; omega
    · omega
theorem start_yes (mm q : Int) (w : World) (hL : Len w) (h0 : 0 ≤ mm) (h1 : mm ≤ 60000) (h : md mm * 1440 < 2147483648) (hq : md mm * 1440 = q) :
    Calls Tryd.prog 19 #[.int .i64 mm] w fun e w' => e = .returned (.int .i64 q) ∧ w = w' := by
  have := monthStart_any mm w hL
  rw [if_pos ⟨h0, h1, h⟩, hq] at this
  exact this

set_option maxHeartbeats 400000 in
theorem starts_law (mm : Int) (w : World) (hE : Env w) :
    Calls Tryd.prog 6 #[.int .i64 mm] w fun e w' => e = .returned (.bool true) ∧ Below w.heap.size w w' := by
  have HE := Lib.hid hE
  clear hE
  by_cases h0 : mm < 0
  · go_enter Tryd.func6, Tryd.ntmps6
    go_wp2_with fail
    refine (start_no mm _ HE.out.len (.inl h0)).mono ?_
    rintro e w' ⟨rfl, rfl⟩
    go_wp2_with fail
    refine (awake_any _ HE.out).mono ?_
    rintro e w1 ⟨rfl, hb⟩
    go_wp2_with fail
    go_ret
    exact ⟨rfl, hb⟩
  by_cases h1 : 49000 < mm
  · go_enter Tryd.func6, Tryd.ntmps6
    go_wp2_with fail
    refine (start_no mm _ HE.out.len (.inr (.inl h1))).mono ?_
    rintro e w' ⟨rfl, rfl⟩
    go_wp2_with fail
    refine (awake_any _ HE.out).mono ?_
    rintro e w1 ⟨rfl, hb⟩
    go_wp2_with fail
    go_ret
    exact ⟨rfl, hb⟩
  by_cases h2 : 2147483648 ≤ md mm * 1440
  · have h3 : 48990 < mm := by
      apply Classical.byContradiction; intro hn
      have := md_near mm (by omega) (by omega); omega
    have H2 := Lib.hid h2
    clear h2
    go_enter Tryd.func6, Tryd.ntmps6
    go_wp2_with fail
    refine (start_no mm _ HE.out.len (.inr (.inr H2.out))).mono ?_
    rintro e w' ⟨rfl, rfl⟩
    go_wp2_with fail
    refine (awake_any _ HE.out).mono ?_
    rintro e w1 ⟨rfl, hb⟩
    go_wp2_with fail
    go_ret
    exact ⟨rfl, hb⟩
  by_cases h4 : mm = 0
  · subst h4
    clear h2
    go_enter Tryd.func6, Tryd.ntmps6
    go_wp2_with fail
    refine (start_yes 0 0 _ HE.out.len (by decide) (by decide) (by decide) (by decide)).mono ?_
    rintro e w' ⟨rfl, rfl⟩
    go_wp2_with fail
    refine (awake_any _ HE.out).mono ?_
    rintro e w1 ⟨rfl, hb⟩
    go_wp2_with fail
    go_ret
    exact ⟨rfl, hb⟩
  have hb0 : (mm == 0) = false := by simpa using h4
  have m1 : 1 ≤ mm := by omega
  have hs := md_succ mm (by omega)
  have b0 := (md_bd mm (by omega)).1
  have b1 := (md_bd (mm - 1) (by omega)).1
  obtain ⟨dd, hdd⟩ : ∃ d, dim (2000 + (mm - 1) / 12) ((mm - 1) % 12 + 1) = d := ⟨_, rfl⟩
  have db := dim_bd (2000 + (mm - 1) / 12) ((mm - 1) % 12 + 1)
  rw [hdd] at hs db
  obtain ⟨q, hq⟩ : ∃ q, md mm * 1440 = q := ⟨_, rfl⟩
  obtain ⟨q1, hq1⟩ : ∃ q, md (mm - 1) * 1440 = q := ⟨_, rfl⟩
  have q0 : 0 ≤ q := by omega
  have q2 : 0 ≤ q1 := by omega
  have q3 : q < 2147483648 := by omega
  have q4 : q1 < 2147483648 := by omega
  have e5 : (q == q1 + dd * 1440) = true := by simp; omega
  have HQ := Lib.hid hq
  have HQ1 := Lib.hid hq1
  have HDD := Lib.hid hdd
  have H2 := Lib.hid (show md mm * 1440 < 2147483648 by omega)
  have H3 := Lib.hid (show md (mm - 1) * 1440 < 2147483648 by omega)
  clear hq hq1 hdd hs b0 b1 h2 h4
  go_enter Tryd.func6, Tryd.ntmps6
  go_wp2_with fail
  refine (start_yes mm q _ HE.out.len (by omega) (by omega) H2.out HQ.out).mono ?_
  rintro e w' ⟨rfl, rfl⟩
  go_wp2_with fail
  refine (start_yes (mm - 1) q1 _ HE.out.len (by omega) (by omega) H3.out HQ1.out).mono ?_
  rintro e w' ⟨rfl, rfl⟩
  go_wp2_with fail
  refine (days_any _ _ _ HE.out.len).mono ?_
  rintro e w' ⟨rfl, rfl⟩
  rw [HDD.out]
  go_wp2_with fail
  refine (days_any _ _ _ HE.out.len).mono ?_
  rintro e w' ⟨rfl, rfl⟩
  rw [HDD.out]
  go_wp2_with fail
  refine (refDays_any _ _ _ (by omega) (by omega)).mono ?_
  rintro e w' ⟨rfl, rfl⟩
  rw [HDD.out]
  go_wp2_with fail
  refine (awake_any _ HE.out).mono ?_
  rintro e w1 ⟨rfl, hb⟩
  go_wp2_with fail
  go_ret
  exact ⟨rfl, hb⟩
end Go.Proofs.YtmjcdnlcdkeoaaaDoor.Cal
