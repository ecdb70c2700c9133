/- Walks: the ways of comparing. -/
import Derived.Test.YtedpgeilamhipaaDoorOrdersLaw
set_option linter.unusedVariables false
set_option linter.unusedSimpArgs false
namespace Go.Proofs.YtedpgeilamhipaaDoor.Va
open Go.RowKit Go Ba

/-- Does a way of comparing hold? -/
def holdsB (op c : Int) : Bool :=
  if op = 1 then decide (c = 0) else if op = 2 then decide (c ≠ 0) else if op = 3 then decide (c < 0) else if op = 4 then decide (c ≤ 0) else if op = 5 then decide (0 < c) else decide (0 ≤ c)
def IsWay (op : Int) : Prop := op = 1 ∨ op = 2 ∨ op = 3 ∨ op = 4 ∨ op = 5 ∨ op = 6
theorem c_three {c : Int} (c0 : -1 ≤ c) (c1 : c ≤ 1) : c = -1 ∨ c = 0 ∨ c = 1 := by omega
theorem holds_any (op c : Int) (r : Bool) (w : World) (h : IsWay op) (c0 : -1 ≤ c) (c1 : c ≤ 1) (hr : holdsB op c = r) :
    Calls Tryd.prog 38 #[.int .i64 op, .int .i64 c] w fun e w' => e = .returned (.bool r) ∧ w' = w := by
  subst hr
  rcases h with rfl | rfl | rfl | rfl | rfl | rfl <;> rcases c_three c0 c1 with rfl | rfl | rfl
  all_goals
    (clear c0 c1
     go_enter Tryd.func38, Tryd.ntmps38
     go_wp2_with fail
     go_ret
     exact ⟨rfl, rfl⟩)
set_option maxHeartbeats 1600000 in
theorem refHolds_any (op ka na : Int) (sa : ByteArray) (kb nb : Int) (sb : ByteArray) (c : Int) (r : Bool) (w : World) (ha : sa.size ≤ 9223372036854775807) (hb : sb.size ≤ 9223372036854775807) (h : IsWay op) (hc : cmpV ka na sa kb nb sb = c) (c0 : -1 ≤ c) (c1 : c ≤ 1) (hr : holdsB op c = r) :
    Calls Tryd.prog 27 #[.int .i64 op, .agg #[.int .i64 ka, .int .i64 na, .string sa], .agg #[.int .i64 kb, .int .i64 nb, .string sb]] w fun e w' => e = .returned (.bool r) ∧ Below w.heap.size w w' := by
  subst hr
  have HC := Lib.hid hc
  clear hc
  rcases h with rfl | rfl | rfl | rfl | rfl | rfl <;> rcases c_three c0 c1 with rfl | rfl | rfl
  all_goals
    (clear c0 c1
     go_enter Tryd.func27, Tryd.ntmps27
     go_wp2_with fail
     refine (refCmp_any ka na sa kb nb sb _ _ ha hb HC.out).mono ?_
     rintro e w1 ⟨rfl, hb1⟩
     go_wp2_with fail
     go_ret
     exact ⟨rfl, next (by go_grown) hb1 (by simp <;> omega)⟩)
/-- Null, where there is nothing to compare. -/
theorem compare_null (op ka na : Int) (sa : ByteArray) (kb nb : Int) (sb : ByteArray) (w : World) (h : op < 1 ∨ 6 < op ∨ ka = 0 ∨ kb = 0) :
    Calls Tryd.prog 26 #[.int .i64 op, .agg #[.int .i64 ka, .int .i64 na, .string sa], .agg #[.int .i64 kb, .int .i64 nb, .string sb]] w fun e w' => e = .returned (.agg #[.int .i64 0, .int .i64 0, .string ⟨#[]⟩]) ∧ Below w.heap.size w w' := by
  by_cases h1 : op < 1
  · clear h
    go_enter Tryd.func26, Tryd.ntmps26
    go_wp2
    go_returns
    exact ⟨rfl, by go_grown⟩
  by_cases h2 : 6 < op
  · clear h
    go_enter Tryd.func26, Tryd.ntmps26
    go_wp2
    go_returns
    exact ⟨rfl, by go_grown⟩
  have q1 : 1 ≤ op := by omega
  have q2 : op ≤ 6 := by omega
  by_cases h3 : ka = 0
  · subst h3
    clear h h1 h2
    go_enter Tryd.func26, Tryd.ntmps26
    go_wp2
    go_returns
    exact ⟨rfl, by go_grown⟩
  have d3 : (ka == 0) = false := by simpa using h3
  obtain rfl : kb = 0 := by omega
  clear h h1 h2 h3
  go_enter Tryd.func26, Tryd.ntmps26
  go_wp2
  go_returns
  exact ⟨rfl, by go_grown⟩
set_option maxHeartbeats 800000 in
theorem compare_ok (op ka na : Int) (sa : ByteArray) (kb nb : Int) (sb : ByteArray) (c n : Int) (r : Bool) (w : World) (h : IsWay op) (hk : ka ≠ 0) (hl : kb ≠ 0) (hc : cmpV ka na sa kb nb sb = c) (c0 : -1 ≤ c) (c1 : c ≤ 1) (hr : holdsB op c = r) (hn : n = if r then 1 else 0) :
    Calls Tryd.prog 26 #[.int .i64 op, .agg #[.int .i64 ka, .int .i64 na, .string sa], .agg #[.int .i64 kb, .int .i64 nb, .string sb]] w fun e w' => e = .returned (.agg #[.int .i64 1, .int .i64 n, .string ⟨#[]⟩]) ∧ Below w.heap.size w w' := by
  have d3 : (ka == 0) = false := by simpa using hk
  have d4 : (kb == 0) = false := by simpa using hl
  have q1 : 1 ≤ op := by unfold IsWay at h; omega
  have q2 : op ≤ 6 := by unfold IsWay at h; omega
  have HH : Hid (IsWay op) := h
  have HC := Lib.hid hc
  have HR := Lib.hid hr
  clear h hk hl hc hr
  cases r
  · simp only [Bool.false_eq_true, if_false, if_true] at hn
    subst hn
    go_enter Tryd.func26, Tryd.ntmps26
    go_wp2_with fail
    refine (cmp_is HC.out _).mono ?_
    rintro e w1 ⟨rfl, hb1⟩
    have hz := hb1.size
    simp only [World.size_alloc] at hz
    have hz1 : w.heap.size + 1 + 1 < w1.heap.size := by omega
    have hz2 : ¬ w1.heap.size = w.heap.size + 1 + 1 := by omega
    have k0 := box hb1 (by simp) 0
    have k1 := box hb1 (by simp) 1
    have k2 := box hb1 (by simp) 2
    have q0 := boxf hb1 (by simp) 0
    have q1' := boxf hb1 (by simp) 1
    have q2' := boxf hb1 (by simp) 2
    simp only [List.getElem?_toArray, List.getElem?_cons_zero, List.getElem?_cons_succ, World.size_alloc] at k0 k1 k2 q0 q1' q2'
    have b1 := next (w := w) (B := w.heap.size) (by go_grown) hb1 (by simp <;> omega)
    clear hb1 hz
    go_wp2_with fail
    refine (holds_any op c _ _ HH.out c0 c1 HR.out).mono ?_
    rintro e w2 ⟨rfl, rfl⟩
    go_wp2
    try simp only [Exit.inBlock, Exit.then]
    refine bodyPost_ret (by simp [results, Tryd.results26, go_sem, hz1, hz2, k0, k1, k2]; try rfl) rfl ?_
    exact ⟨rfl, by go_grown⟩
  · simp only [Bool.false_eq_true, if_false, if_true] at hn
    subst hn
    go_enter Tryd.func26, Tryd.ntmps26
    go_wp2_with fail
    refine (cmp_is HC.out _).mono ?_
    rintro e w1 ⟨rfl, hb1⟩
    have hz := hb1.size
    simp only [World.size_alloc] at hz
    have hz1 : w.heap.size + 1 + 1 < w1.heap.size := by omega
    have hz2 : ¬ w1.heap.size = w.heap.size + 1 + 1 := by omega
    have k0 := box hb1 (by simp) 0
    have k1 := box hb1 (by simp) 1
    have k2 := box hb1 (by simp) 2
    have q0 := boxf hb1 (by simp) 0
    have q1' := boxf hb1 (by simp) 1
    have q2' := boxf hb1 (by simp) 2
    simp only [List.getElem?_toArray, List.getElem?_cons_zero, List.getElem?_cons_succ, World.size_alloc] at k0 k1 k2 q0 q1' q2'
    have b1 := next (w := w) (B := w.heap.size) (by go_grown) hb1 (by simp <;> omega)
    clear hb1 hz
    go_wp2_with fail
    refine (holds_any op c _ _ HH.out c0 c1 HR.out).mono ?_
    rintro e w2 ⟨rfl, rfl⟩
    go_wp2
    try simp only [Exit.inBlock, Exit.then]
    refine bodyPost_ret (by simp [results, Tryd.results26, go_sem, hz1, hz2, k0, k1, k2]; try rfl) rfl ?_
    exact ⟨rfl, by go_grown⟩
end Go.Proofs.YtedpgeilamhipaaDoor.Va
