/- The walk of the law on leap years: it returns true at every year and month. -/
import Derived.Test.YtmjcdnlcdkeoaaaDoorCalWalk7
set_option linter.unusedVariables false
set_option linter.unusedSimpArgs false
namespace Go.Proofs.YtmjcdnlcdkeoaaaDoor.Cal
open Go.RowKit Go

set_option maxHeartbeats 400000 in
theorem leaps_law (y m : Int) (w : World) (hE : Env w) :
    Calls Tryd.prog 5 #[.int .i64 y, .int .i64 m] w fun e w' => e = .returned (.bool true) ∧ Below w.heap.size w w' := by
  have HE := Lib.hid hE
  clear hE
  by_cases h1 : m < 1
  · have hd : dim y m = 0 := by unfold dim; rw [if_pos (Or.inl h1)]
    have HD := Lib.hid hd
    clear hd
    go_enter Tryd.func5, Tryd.ntmps5
    go_wp2_with fail
    refine (days_any y m _ HE.out.len).mono ?_
    rintro e w' ⟨rfl, rfl⟩
    rw [HD.out]
    go_wp2_with fail
    refine (awake_any _ HE.out).mono ?_
    rintro e w1 ⟨rfl, hb⟩
    go_wp2_with fail
    go_ret
    exact ⟨rfl, hb⟩
  by_cases h2 : 12 < m
  · have hd : dim y m = 0 := by unfold dim; rw [if_pos (Or.inr h2)]
    have HD := Lib.hid hd
    clear hd
    go_enter Tryd.func5, Tryd.ntmps5
    go_wp2_with fail
    refine (days_any y m _ HE.out.len).mono ?_
    rintro e w' ⟨rfl, rfl⟩
    rw [HD.out]
    go_wp2_with fail
    refine (awake_any _ HE.out).mono ?_
    rintro e w1 ⟨rfl, hb⟩
    go_wp2_with fail
    go_ret
    exact ⟨rfl, hb⟩
  go_enter Tryd.func5, Tryd.ntmps5
  go_wp2_with fail
  refine (days_any y m _ HE.out.len).mono ?_
  rintro e w' ⟨rfl, rfl⟩
  go_wp2_with fail
  refine (leap_any y _).mono ?_
  rintro e w' ⟨rfl, rfl⟩
  go_wp2_with fail
  refine (refLeap_any y _).mono ?_
  rintro e w' ⟨rfl, rfl⟩
  go_wp2_with fail
  refine (refDays_any y m _ (by omega) (by omega)).mono ?_
  rintro e w' ⟨rfl, rfl⟩
  go_wp2_with fail
  refine (awake_any _ HE.out).mono ?_
  rintro e w1 ⟨rfl, hb⟩
  go_wp2_with fail
  go_ret
  exact ⟨rfl, hb⟩
end Go.Proofs.YtmjcdnlcdkeoaaaDoor.Cal
