/- Walks: the minute of a date. -/
import Derived.Test.YtmjcdnlcdkeoaaaDoorCalWalk3
set_option linter.unusedVariables false
set_option linter.unusedSimpArgs false
namespace Go.Proofs.YtmjcdnlcdkeoaaaDoor.Cal
open Go.RowKit Go

theorem Below.drewN {B : Nat} {a w : World} (h : Below B a w) (n : Nat) : Below B a (w.drewN n) := ⟨h.os, h.tape, h.output, h.size, h.block⟩
theorem dfalse {p : Prop} [Decidable p] (h : ¬ p) : decide p = false := decide_eq_false h

set_option maxHeartbeats 400000 in
theorem minutes_n1 (y m d h i k : Int) (w : World)  (c : y < 2000) (hL : Len w) :
    Calls Tryd.prog 12 #[.agg #[.int .i64 y, .int .i64 m, .int .i64 d, .int .i64 h, .int .i64 i, .int .i64 k]] w fun e w' => e = .returned (.tuple #[.int .i64 0, .int .i64 30]) ∧ Below w.heap.size w w' := by
  have HL := Lib.hid hL
  clear hL
  go_enter Tryd.func12, Tryd.ntmps12
  go_wp2_with fail
  go_quiet (fail)
  go_wp2_with fail
  go_returns
  exact ⟨rfl, Below.drewN (by go_grown) _⟩
set_option maxHeartbeats 400000 in
theorem minutes_n2 (y m d h i k : Int) (w : World) (n1 : ¬ y < 2000) (c : 7000 < y) (hL : Len w) :
    Calls Tryd.prog 12 #[.agg #[.int .i64 y, .int .i64 m, .int .i64 d, .int .i64 h, .int .i64 i, .int .i64 k]] w fun e w' => e = .returned (.tuple #[.int .i64 0, .int .i64 30]) ∧ Below w.heap.size w w' := by
  have HL := Lib.hid hL
  clear hL
  have d1 := dfalse n1
  go_enter Tryd.func12, Tryd.ntmps12
  go_wp2_with fail
  go_quiet (fail)
  go_wp2_with fail
  go_returns
  exact ⟨rfl, Below.drewN (by go_grown) _⟩
set_option maxHeartbeats 400000 in
theorem minutes_n3 (y m d h i k : Int) (w : World) (n1 : ¬ y < 2000) (n2 : ¬ 7000 < y) (c : m < 1) (hL : Len w) :
    Calls Tryd.prog 12 #[.agg #[.int .i64 y, .int .i64 m, .int .i64 d, .int .i64 h, .int .i64 i, .int .i64 k]] w fun e w' => e = .returned (.tuple #[.int .i64 0, .int .i64 30]) ∧ Below w.heap.size w w' := by
  have HL := Lib.hid hL
  clear hL
  have d1 := dfalse n1
  have d2 := dfalse n2
  go_enter Tryd.func12, Tryd.ntmps12
  go_wp2_with fail
  go_quiet (fail)
  go_wp2_with fail
  go_returns
  exact ⟨rfl, Below.drewN (by go_grown) _⟩
set_option maxHeartbeats 400000 in
theorem minutes_n4 (y m d h i k : Int) (w : World) (n1 : ¬ y < 2000) (n2 : ¬ 7000 < y) (n3 : ¬ m < 1) (c : 12 < m) (hL : Len w) :
    Calls Tryd.prog 12 #[.agg #[.int .i64 y, .int .i64 m, .int .i64 d, .int .i64 h, .int .i64 i, .int .i64 k]] w fun e w' => e = .returned (.tuple #[.int .i64 0, .int .i64 30]) ∧ Below w.heap.size w w' := by
  have HL := Lib.hid hL
  clear hL
  have d1 := dfalse n1
  have d2 := dfalse n2
  have d3 := dfalse n3
  go_enter Tryd.func12, Tryd.ntmps12
  go_wp2_with fail
  go_quiet (fail)
  go_wp2_with fail
  go_returns
  exact ⟨rfl, Below.drewN (by go_grown) _⟩
set_option maxHeartbeats 400000 in
theorem minutes_n5 (y m d h i k : Int) (w : World) (n1 : ¬ y < 2000) (n2 : ¬ 7000 < y) (n3 : ¬ m < 1) (n4 : ¬ 12 < m) (c : d < 1) (hL : Len w) :
    Calls Tryd.prog 12 #[.agg #[.int .i64 y, .int .i64 m, .int .i64 d, .int .i64 h, .int .i64 i, .int .i64 k]] w fun e w' => e = .returned (.tuple #[.int .i64 0, .int .i64 30]) ∧ Below w.heap.size w w' := by
  have HL := Lib.hid hL
  clear hL
  have d1 := dfalse n1
  have d2 := dfalse n2
  have d3 := dfalse n3
  have d4 := dfalse n4
  go_enter Tryd.func12, Tryd.ntmps12
  go_wp2_with fail
  go_quiet (fail)
  go_wp2_with fail
  go_returns
  exact ⟨rfl, Below.drewN (by go_grown) _⟩
set_option maxHeartbeats 400000 in
theorem minutes_n6 (y m d h i k : Int) (w : World) (n1 : ¬ y < 2000) (n2 : ¬ 7000 < y) (n3 : ¬ m < 1) (n4 : ¬ 12 < m) (n5 : ¬ d < 1) (c : dim y m < d) (hL : Len w) :
    Calls Tryd.prog 12 #[.agg #[.int .i64 y, .int .i64 m, .int .i64 d, .int .i64 h, .int .i64 i, .int .i64 k]] w fun e w' => e = .returned (.tuple #[.int .i64 0, .int .i64 30]) ∧ Below w.heap.size w w' := by
  have HL := Lib.hid hL
  clear hL
  have d1 := dfalse n1
  have d2 := dfalse n2
  have d3 := dfalse n3
  have d4 := dfalse n4
  have d5 := dfalse n5
  go_enter Tryd.func12, Tryd.ntmps12
  go_wp2_with fail
  go_quiet ((go_at_call 17; exact Calls.quiet_of_same ((days_any _ _ _ (HL.out.below (Below.drewN (by go_grown) _))).mono (fun e w' h => ⟨h.1, h.2.symm⟩))))
  go_wp2_with fail
  go_returns
  exact ⟨rfl, Below.drewN (by go_grown) _⟩
set_option maxHeartbeats 400000 in
theorem minutes_h1 (y m d h i k : Int) (w : World) (n1 : ¬ y < 2000) (n2 : ¬ 7000 < y) (n3 : ¬ m < 1) (n4 : ¬ 12 < m) (n5 : ¬ d < 1) (n6 : ¬ dim y m < d)  (c : h < 0) (hL : Len w) :
    Calls Tryd.prog 12 #[.agg #[.int .i64 y, .int .i64 m, .int .i64 d, .int .i64 h, .int .i64 i, .int .i64 k]] w fun e w' => e = .returned (.tuple #[.int .i64 0, .int .i64 30]) ∧ Below w.heap.size w w' := by
  have HL := Lib.hid hL
  clear hL
  have d1 := dfalse n1
  have d2 := dfalse n2
  have d3 := dfalse n3
  have d4 := dfalse n4
  have d5 := dfalse n5
  have d6 := dfalse n6
  go_enter Tryd.func12, Tryd.ntmps12
  go_wp2_with fail
  go_quiet ((go_at_call 17; exact Calls.quiet_of_same ((days_any _ _ _ (HL.out.below (Below.drewN (by go_grown) _))).mono (fun e w' h => ⟨h.1, h.2.symm⟩))))
  go_wp2_with fail
  go_returns
  exact ⟨rfl, Below.drewN (by go_grown) _⟩
set_option maxHeartbeats 400000 in
theorem minutes_h2 (y m d h i k : Int) (w : World) (n1 : ¬ y < 2000) (n2 : ¬ 7000 < y) (n3 : ¬ m < 1) (n4 : ¬ 12 < m) (n5 : ¬ d < 1) (n6 : ¬ dim y m < d) (p1 : ¬ h < 0) (c : 24 ≤ h) (hL : Len w) :
    Calls Tryd.prog 12 #[.agg #[.int .i64 y, .int .i64 m, .int .i64 d, .int .i64 h, .int .i64 i, .int .i64 k]] w fun e w' => e = .returned (.tuple #[.int .i64 0, .int .i64 30]) ∧ Below w.heap.size w w' := by
  have HL := Lib.hid hL
  clear hL
  have d1 := dfalse n1
  have d2 := dfalse n2
  have d3 := dfalse n3
  have d4 := dfalse n4
  have d5 := dfalse n5
  have d6 := dfalse n6
  have e1 := dfalse p1
  go_enter Tryd.func12, Tryd.ntmps12
  go_wp2_with fail
  go_quiet ((go_at_call 17; exact Calls.quiet_of_same ((days_any _ _ _ (HL.out.below (Below.drewN (by go_grown) _))).mono (fun e w' h => ⟨h.1, h.2.symm⟩))))
  go_wp2_with fail
  go_returns
  exact ⟨rfl, Below.drewN (by go_grown) _⟩
set_option maxHeartbeats 400000 in
theorem minutes_h3 (y m d h i k : Int) (w : World) (n1 : ¬ y < 2000) (n2 : ¬ 7000 < y) (n3 : ¬ m < 1) (n4 : ¬ 12 < m) (n5 : ¬ d < 1) (n6 : ¬ dim y m < d) (p1 : ¬ h < 0) (p2 : ¬ 24 ≤ h) (c : i < 0) (hL : Len w) :
    Calls Tryd.prog 12 #[.agg #[.int .i64 y, .int .i64 m, .int .i64 d, .int .i64 h, .int .i64 i, .int .i64 k]] w fun e w' => e = .returned (.tuple #[.int .i64 0, .int .i64 30]) ∧ Below w.heap.size w w' := by
  have HL := Lib.hid hL
  clear hL
  have d1 := dfalse n1
  have d2 := dfalse n2
  have d3 := dfalse n3
  have d4 := dfalse n4
  have d5 := dfalse n5
  have d6 := dfalse n6
  have e1 := dfalse p1
  have e2 := dfalse p2
  go_enter Tryd.func12, Tryd.ntmps12
  go_wp2_with fail
  go_quiet ((go_at_call 17; exact Calls.quiet_of_same ((days_any _ _ _ (HL.out.below (Below.drewN (by go_grown) _))).mono (fun e w' h => ⟨h.1, h.2.symm⟩))))
  go_wp2_with fail
  go_returns
  exact ⟨rfl, Below.drewN (by go_grown) _⟩
set_option maxHeartbeats 400000 in
theorem minutes_h4 (y m d h i k : Int) (w : World) (n1 : ¬ y < 2000) (n2 : ¬ 7000 < y) (n3 : ¬ m < 1) (n4 : ¬ 12 < m) (n5 : ¬ d < 1) (n6 : ¬ dim y m < d) (p1 : ¬ h < 0) (p2 : ¬ 24 ≤ h) (p3 : ¬ i < 0) (c : 60 ≤ i) (hL : Len w) :
    Calls Tryd.prog 12 #[.agg #[.int .i64 y, .int .i64 m, .int .i64 d, .int .i64 h, .int .i64 i, .int .i64 k]] w fun e w' => e = .returned (.tuple #[.int .i64 0, .int .i64 30]) ∧ Below w.heap.size w w' := by
  have HL := Lib.hid hL
  clear hL
  have d1 := dfalse n1
  have d2 := dfalse n2
  have d3 := dfalse n3
  have d4 := dfalse n4
  have d5 := dfalse n5
  have d6 := dfalse n6
  have e1 := dfalse p1
  have e2 := dfalse p2
  have e3 := dfalse p3
  go_enter Tryd.func12, Tryd.ntmps12
  go_wp2_with fail
  go_quiet ((go_at_call 17; exact Calls.quiet_of_same ((days_any _ _ _ (HL.out.below (Below.drewN (by go_grown) _))).mono (fun e w' h => ⟨h.1, h.2.symm⟩))))
  go_wp2_with fail
  go_returns
  exact ⟨rfl, Below.drewN (by go_grown) _⟩

/-- The numbers are those of a date, but for its weekday and how far it is. -/
structure Ok (y m d h i : Int) : Prop where
  n1 : ¬ y < 2000
  n2 : ¬ 7000 < y
  n3 : ¬ m < 1
  n4 : ¬ 12 < m
  n5 : ¬ d < 1
  n6 : ¬ dim y m < d
  p1 : ¬ h < 0
  p2 : ¬ 24 ≤ h
  p3 : ¬ i < 0
  p4 : ¬ 60 ≤ i
theorem minutes_bad (y m d h i k : Int) (w : World) (c : ¬ Ok y m d h i) (hL : Len w) :
    Calls Tryd.prog 12 #[.agg #[.int .i64 y, .int .i64 m, .int .i64 d, .int .i64 h, .int .i64 i, .int .i64 k]] w fun e w' => e = .returned (.tuple #[.int .i64 0, .int .i64 30]) ∧ Below w.heap.size w w' := by
  by_cases n1 : y < 2000
  · exact minutes_n1 y m d h i k w n1 hL
  by_cases n2 : 7000 < y
  · exact minutes_n2 y m d h i k w n1 n2 hL
  by_cases n3 : m < 1
  · exact minutes_n3 y m d h i k w n1 n2 n3 hL
  by_cases n4 : 12 < m
  · exact minutes_n4 y m d h i k w n1 n2 n3 n4 hL
  by_cases n5 : d < 1
  · exact minutes_n5 y m d h i k w n1 n2 n3 n4 n5 hL
  by_cases n6 : dim y m < d
  · exact minutes_n6 y m d h i k w n1 n2 n3 n4 n5 n6 hL
  by_cases p1 : h < 0
  · exact minutes_h1 y m d h i k w n1 n2 n3 n4 n5 n6 p1 hL
  by_cases p2 : 24 ≤ h
  · exact minutes_h2 y m d h i k w n1 n2 n3 n4 n5 n6 p1 p2 hL
  by_cases p3 : i < 0
  · exact minutes_h3 y m d h i k w n1 n2 n3 n4 n5 n6 p1 p2 p3 hL
  by_cases p4 : 60 ≤ i
  · exact minutes_h4 y m d h i k w n1 n2 n3 n4 n5 n6 p1 p2 p3 p4 hL
  exact absurd ⟨n1, n2, n3, n4, n5, n6, p1, p2, p3, p4⟩ c
end Go.Proofs.YtmjcdnlcdkeoaaaDoor.Cal
