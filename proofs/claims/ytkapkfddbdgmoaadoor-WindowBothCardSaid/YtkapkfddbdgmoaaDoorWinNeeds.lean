/- Walks: does one partition need another, as the document says; and those that need one. -/
import Derived.Test.YtkapkfddbdgmoaaDoorWinLaws
import Derived.Test.YtkapkfddbdgmoaaDoorSchAt
import Derived.Test.YtkapkfddbdgmoaaDoorSchChk
set_option linter.unusedVariables false
set_option linter.unusedSimpArgs false
namespace Go.Proofs.YtkapkfddbdgmoaaDoor.Wi
open Go.RowKit Go Go.Sort Ba Sc
open Cal hiding ret_int ret_bool lt_of_cell

/-- As the document says: does the partition i need j? -/
def needsB (k n lk lf ll uk uf ul i j : Int) : Bool :=
  decide (lf ≤ i ∧ i ≤ ll ∧ uf ≤ j ∧ j ≤ ul) && (if k = 1 then decide (i = j) else if k = 2 then decide (j ≤ i ∧ i - n < j) else if k = 3 then decide (j = i + n) else if k = 4 then decide (startV lk i ≤ startV uk j ∧ startV uk (j + 1) ≤ startV lk (i + 1)) else true)
section
variable {k n lk lf ll uk uf ul i j : Int}
theorem nb_out (h : ¬ (lf ≤ i ∧ i ≤ ll ∧ uf ≤ j ∧ j ≤ ul)) : needsB k n lk lf ll uk uf ul i j = false := by unfold needsB; rw [decide_eq_false h]; rfl
theorem nb_in (h : lf ≤ i ∧ i ≤ ll ∧ uf ≤ j ∧ j ≤ ul) : needsB k n lk lf ll uk uf ul i j = (if k = 1 then decide (i = j) else if k = 2 then decide (j ≤ i ∧ i - n < j) else if k = 3 then decide (j = i + n) else if k = 4 then decide (startV lk i ≤ startV uk j ∧ startV uk (j + 1) ≤ startV lk (i + 1)) else true) := by unfold needsB; rw [decide_eq_true h]; rfl
theorem nb1 (h : lf ≤ i ∧ i ≤ ll ∧ uf ≤ j ∧ j ≤ ul) : needsB 1 n lk lf ll uk uf ul i j = decide (i = j) := nb_in h
theorem nb2 (h : lf ≤ i ∧ i ≤ ll ∧ uf ≤ j ∧ j ≤ ul) : needsB 2 n lk lf ll uk uf ul i j = decide (j ≤ i ∧ i - n < j) := nb_in h
theorem nb3 (h : lf ≤ i ∧ i ≤ ll ∧ uf ≤ j ∧ j ≤ ul) : needsB 3 n lk lf ll uk uf ul i j = decide (j = i + n) := nb_in h
theorem nb4 (h : lf ≤ i ∧ i ≤ ll ∧ uf ≤ j ∧ j ≤ ul) : needsB 4 n lk lf ll uk uf ul i j = decide (startV lk i ≤ startV uk j ∧ startV uk (j + 1) ≤ startV lk (i + 1)) := nb_in h
theorem nb5 (h : lf ≤ i ∧ i ≤ ll ∧ uf ≤ j ∧ j ≤ ul) : needsB 5 n lk lf ll uk uf ul i j = true := nb_in h
end
set_option maxHeartbeats 3200000 in
theorem refNeeds_is (k n lk lf ll uk uf ul i j : Int) (r : Bool) (w : World) (k1 : 1 ≤ k) (k5 : k ≤ 5) (n0 : -512 ≤ n) (n1 : n ≤ 512) (l0 : 0 ≤ lf) (l1 : ll < 2147483648) (u0 : 0 ≤ uf) (u1 : ul < 2147483648) (hr : needsB k n lk lf ll uk uf ul i j = r) :
    Calls Tryd.prog 54 #[.agg #[.int .i64 k, .int .i64 n], .agg #[.int .i64 lk, .int .i64 lf, .int .i64 ll], .agg #[.int .i64 uk, .int .i64 uf, .int .i64 ul], .int .i64 i, .int .i64 j] w fun e w' => e = .returned (.bool r) ∧ Below w.heap.size w w' := by
  have bw : Below w.heap.size w (((w.alloc (.cells #[.int .i64 k, .int .i64 n] 58)).alloc (.cells #[.int .i64 lk, .int .i64 lf, .int .i64 ll] 25)).alloc (.cells #[.int .i64 uk, .int .i64 uf, .int .i64 ul] 25)) := by go_grown
  by_cases a0 : lf ≤ i
  rotate_left
  · rw [nb_out (by omega)] at hr
    subst hr
    have c0 : i < lf := by omega
    go_enter Tryd.func54, Tryd.ntmps54
    go_wp2_with fail
    go_ret
    exact ⟨rfl, bw⟩
  have d0 : decide (i < lf) = false := decide_eq_false (by omega)
  by_cases a1 : i ≤ ll
  rotate_left
  · rw [nb_out (by omega)] at hr
    subst hr
    have c1 : ll < i := by omega
    go_enter Tryd.func54, Tryd.ntmps54
    go_wp2_with fail
    go_ret
    exact ⟨rfl, bw⟩
  have d1 : decide (ll < i) = false := decide_eq_false (by omega)
  by_cases a2 : uf ≤ j
  rotate_left
  · rw [nb_out (by omega)] at hr
    subst hr
    have c2 : j < uf := by omega
    go_enter Tryd.func54, Tryd.ntmps54
    go_wp2_with fail
    go_ret
    exact ⟨rfl, bw⟩
  have d2 : decide (j < uf) = false := decide_eq_false (by omega)
  by_cases a3 : j ≤ ul
  rotate_left
  · rw [nb_out (by omega)] at hr
    subst hr
    have c3 : ul < j := by omega
    go_enter Tryd.func54, Tryd.ntmps54
    go_wp2_with fail
    go_ret
    exact ⟨rfl, bw⟩
  have d3 : decide (ul < j) = false := decide_eq_false (by omega)
  have hin := And.intro a0 (And.intro a1 (And.intro a2 a3))
  have hk : k = 1 ∨ k = 2 ∨ k = 3 ∨ k = 4 ∨ k = 5 := by omega
  have hw1 : IntKind.i64.wrap (i + 1) = i + 1 := IntWalk.i64_in _ (by omega)
  have hw2 : IntKind.i64.wrap (j + 1) = j + 1 := IntWalk.i64_in _ (by omega)
  rcases hk with rfl | rfl | rfl | rfl | rfl
  · rw [nb1 hin] at hr
    have HR := Lib.hid hr
    clear hr hin
    go_enter Tryd.func54, Tryd.ntmps54
    go_wp2_with fail
    go_ret
    exact ⟨ret_bool (by rw [← HR.out]; rfl), bw⟩
  · rw [nb2 hin] at hr
    have HR := Lib.hid hr
    clear hr hin
    by_cases c : j ≤ i
    · have HQ : Hid (decide (i - n < j) = r) := by show decide (i - n < j) = r; rw [← HR.out, Bool.eq_iff_iff]; simp [c]
      go_enter Tryd.func54, Tryd.ntmps54
      go_wp2_with fail
      go_ret
      exact ⟨ret_bool (by rw [← HQ.out]; try rfl), bw⟩
    · have HQ : Hid (r = false) := by show r = false; rw [← HR.out]; exact decide_eq_false (fun h => c h.1)
      have d : decide (j ≤ i) = false := decide_eq_false c
      go_enter Tryd.func54, Tryd.ntmps54
      go_wp2_with fail
      go_ret
      exact ⟨ret_bool HQ.out.symm, bw⟩
  · rw [nb3 hin] at hr
    have HR := Lib.hid hr
    clear hr hin
    go_enter Tryd.func54, Tryd.ntmps54
    go_wp2_with fail
    go_ret
    exact ⟨ret_bool (by rw [← HR.out]; rfl), bw⟩
  · rw [nb4 hin] at hr
    obtain ⟨A, hA⟩ : ∃ a, startV lk i = a := ⟨_, rfl⟩
    obtain ⟨B, hB⟩ : ∃ a, startV uk j = a := ⟨_, rfl⟩
    obtain ⟨C, hC⟩ : ∃ a, startV uk (j + 1) = a := ⟨_, rfl⟩
    obtain ⟨D, hD⟩ : ∃ a, startV lk (i + 1) = a := ⟨_, rfl⟩
    rw [hA, hB, hC, hD] at hr
    have HR := Lib.hid hr
    have HA := Lib.hid hA
    have HB := Lib.hid hB
    have HC := Lib.hid hC
    have HD := Lib.hid hD
    clear hr hA hB hC hD hin
    have M := ((Box.new w [.int .i64 4, .int .i64 n] 58).alloc (.cells #[.int .i64 lk, .int .i64 lf, .int .i64 ll] 25)).alloc (.cells #[.int .i64 uk, .int .i64 uf, .int .i64 ul] 25)
    have L := (Box.new (w.alloc (.cells #[.int .i64 4, .int .i64 n] 58)) [.int .i64 lk, .int .i64 lf, .int .i64 ll] 25).alloc (.cells #[.int .i64 uk, .int .i64 uf, .int .i64 ul] 25)
    have U := Box.new ((w.alloc (.cells #[.int .i64 4, .int .i64 n] 58)).alloc (.cells #[.int .i64 lk, .int .i64 lf, .int .i64 ll] 25)) [.int .i64 uk, .int .i64 uf, .int .i64 ul] 25
    simp only [World.size_alloc] at L U
    obtain ⟨x0, x1, x2, _, _, _⟩ := L.three
    obtain ⟨y0, y1, y2, _, _, _⟩ := U.three
    have x0 := cell_regrown x0
    have y0 := cell_regrown y0
    have cA := qsame (P := Tryd.prog) (w := ((w.alloc (.cells #[.int .i64 4, .int .i64 n] 58)).alloc (.cells #[.int .i64 lk, .int .i64 lf, .int .i64 ll] 25)).alloc (.cells #[.int .i64 uk, .int .i64 uf, .int .i64 ul] 25)) fun W => refStart_is lk i A W (by omega) (by omega) HA.out
    have cB := qsame (P := Tryd.prog) (w := ((w.alloc (.cells #[.int .i64 4, .int .i64 n] 58)).alloc (.cells #[.int .i64 lk, .int .i64 lf, .int .i64 ll] 25)).alloc (.cells #[.int .i64 uk, .int .i64 uf, .int .i64 ul] 25)) fun W => refStart_is uk j B W (by omega) (by omega) HB.out
    have cC := qsame (P := Tryd.prog) (w := ((w.alloc (.cells #[.int .i64 4, .int .i64 n] 58)).alloc (.cells #[.int .i64 lk, .int .i64 lf, .int .i64 ll] 25)).alloc (.cells #[.int .i64 uk, .int .i64 uf, .int .i64 ul] 25)) fun W => refStart_is uk (j + 1) C W (by omega) (by omega) HC.out
    have cD := qsame (P := Tryd.prog) (w := ((w.alloc (.cells #[.int .i64 4, .int .i64 n] 58)).alloc (.cells #[.int .i64 lk, .int .i64 lf, .int .i64 ll] 25)).alloc (.cells #[.int .i64 uk, .int .i64 uf, .int .i64 ul] 25)) fun W => refStart_is lk (i + 1) D W (by omega) (by omega) HD.out
    by_cases c : A ≤ B
    · have HQ : Hid (decide (C ≤ D) = r) := by show decide (C ≤ D) = r; rw [← HR.out, Bool.eq_iff_iff]; simp [c]
      go_enter Tryd.func54, Tryd.ntmps54
      go_wp2_with fail
      refine wp_region_quiet_below (by kernel_rfl) (by kernel_rfl) ?_
      repeat (go_big_quiet_step (with_reducible (first | exact cA _ _ | exact cB _ _ | exact cC _ _ | exact cD _ _)))
      refine wpQuiet_nil ?_
      intro _ hw'
      obtain ⟨⟨dq1, os1⟩, hw''⟩ := hw'
      subst hw''
      go_wp2_with fail
      go_ret
      exact ⟨ret_bool (by rw [← HQ.out]; try rfl), two bw (below_regrown _ dq1 os1)⟩
    · have HQ : Hid (r = false) := by show r = false; rw [← HR.out]; exact decide_eq_false (fun h => c h.1)
      have d : decide (A ≤ B) = false := decide_eq_false c
      go_enter Tryd.func54, Tryd.ntmps54
      go_wp2_with fail
      refine wp_region_quiet_below (by kernel_rfl) (by kernel_rfl) ?_
      repeat (go_big_quiet_step (with_reducible (first | exact cA _ _ | exact cB _ _ | exact cC _ _ | exact cD _ _)))
      refine wpQuiet_nil ?_
      intro _ hw'
      obtain ⟨⟨dq1, os1⟩, hw''⟩ := hw'
      subst hw''
      go_wp2_with fail
      go_ret
      exact ⟨ret_bool HQ.out.symm, two bw (below_regrown _ dq1 os1)⟩
  · rw [nb5 hin] at hr
    subst hr
    clear hin
    go_enter Tryd.func54, Tryd.ntmps54
    go_wp2_with fail
    go_ret
    exact ⟨rfl, bw⟩
set_option maxRecDepth 100000 in
set_option maxHeartbeats 1600000 in
theorem needs_is (k n lk lf ll uk uf ul i j : Int) (r : Bool) (w : World) (k1 : 1 ≤ k) (k5 : k ≤ 5) (n0 : -512 ≤ n) (n1 : n ≤ 512) (l0 : 0 ≤ lf) (l1 : ll < 2147483648) (u0 : 0 ≤ uf) (u1 : ul < 2147483648) (hr : needsB k n lk lf ll uk uf ul i j = r) :
    Calls Tryd.prog 33 #[.agg #[.int .i64 k, .int .i64 n, .int .i64 lk, .int .i64 lf, .int .i64 ll, .int .i64 uk, .int .i64 uf, .int .i64 ul], .int .i64 i, .int .i64 j] w fun e w' => e = .returned (.bool r) ∧ Below w.heap.size w w' := by
  have bw : Below w.heap.size w (w.alloc (.cells #[.int .i64 k, .int .i64 n, .int .i64 lk, .int .i64 lf, .int .i64 ll, .int .i64 uk, .int .i64 uf, .int .i64 ul] 51)) := by go_grown
  have Q := Box.new w [.int .i64 k, .int .i64 n, .int .i64 lk, .int .i64 lf, .int .i64 ll, .int .i64 uk, .int .i64 uf, .int .i64 ul] 51
  have HR := Lib.hid hr
  clear hr
  obtain ⟨q0, q1, q2, q3, q4, q5, q6, q7⟩ := Box.eight Q
  have q0 := cell_regrown q0
  have q1 := cell_regrown q1
  have q2 := cell_regrown q2
  have q3 := cell_regrown q3
  have q4 := cell_regrown q4
  have q5 := cell_regrown q5
  have q6 := cell_regrown q6
  have q7 := cell_regrown q7
  have cA := qcall (P := Tryd.prog) (w := (w.alloc (.cells #[.int .i64 k, .int .i64 n, .int .i64 lk, .int .i64 lf, .int .i64 ll, .int .i64 uk, .int .i64 uf, .int .i64 ul] 51))) fun W' _ => ref12_is lk lf ll W'
  have cB := qcall (P := Tryd.prog) (w := (w.alloc (.cells #[.int .i64 k, .int .i64 n, .int .i64 lk, .int .i64 lf, .int .i64 ll, .int .i64 uk, .int .i64 uf, .int .i64 ul] 51))) fun W' _ => ref12_is uk uf ul W'
  have cC := qcall (P := Tryd.prog) (w := (w.alloc (.cells #[.int .i64 k, .int .i64 n, .int .i64 lk, .int .i64 lf, .int .i64 ll, .int .i64 uk, .int .i64 uf, .int .i64 ul] 51))) fun W' _ => refNeeds_is k n lk lf ll uk uf ul i j r W' k1 k5 n0 n1 l0 l1 u0 u1 HR.out
  go_enter Tryd.func33, Tryd.ntmps33
  go_wp2_with fail
  refine wp_region_quiet_below (by kernel_rfl) (by kernel_rfl) ?_
  repeat (go_big_quiet_step (with_reducible (first | exact cA _ _ | exact cB _ _ | exact cC _ _)))
  refine wpQuiet_nil ?_
  intro _ hw'
  obtain ⟨⟨dq1, os1⟩, hw''⟩ := hw'
  subst hw''
  go_wp2_with fail
  go_ret
  exact ⟨rfl, two bw (below_regrown _ dq1 os1)⟩
/-- Either answer. -/
def SomeB (w : World) (e : Ending) (w' : World) : Prop := ∃ r, e = .returned (.bool r) ∧ Below w.heap.size w w'
set_option maxHeartbeats 1600000 in
theorem far_any (k n lk lf ll uk uf ul : Int) (w : World) :
    Calls Tryd.prog 30 #[.agg #[.int .i64 k, .int .i64 n, .int .i64 lk, .int .i64 lf, .int .i64 ll, .int .i64 uk, .int .i64 uf, .int .i64 ul]] w (SomeB w) := by
  have bw : Below w.heap.size w (w.alloc (.cells #[.int .i64 k, .int .i64 n, .int .i64 lk, .int .i64 lf, .int .i64 ll, .int .i64 uk, .int .i64 uf, .int .i64 ul] 51)) := by go_grown
  by_cases c : k = 4
  · subst c
    by_cases c1 : lk = 4
    · subst c1
      by_cases c2 : 2000 < ll
      · go_enter Tryd.func30, Tryd.ntmps30
        go_wp2_with fail
        go_ret
        exact ⟨_, rfl, bw⟩
      · have d2 : decide (2000 < ll) = false := decide_eq_false c2
        by_cases c3 : uk = 4
        · subst c3
          go_enter Tryd.func30, Tryd.ntmps30
          go_wp2_with fail
          go_ret
          exact ⟨_, rfl, bw⟩
        · have e3 : (uk == 4) = false := by simpa using c3
          clear c3
          go_enter Tryd.func30, Tryd.ntmps30
          go_wp2_with fail
          go_ret
          exact ⟨_, rfl, bw⟩
    · have e1 : (lk == 4) = false := by simpa using c1
      clear c1
      by_cases c3 : uk = 4
      · subst c3
        go_enter Tryd.func30, Tryd.ntmps30
        go_wp2_with fail
        go_ret
        exact ⟨_, rfl, bw⟩
      · have e3 : (uk == 4) = false := by simpa using c3
        clear c3
        go_enter Tryd.func30, Tryd.ntmps30
        go_wp2_with fail
        go_ret
        exact ⟨_, rfl, bw⟩
  · have e0 : (k == 4) = false := by simpa using c
    clear c
    go_enter Tryd.func30, Tryd.ntmps30
    go_wp2_with fail
    go_ret
    exact ⟨_, rfl, bw⟩
theorem fits_zero {k n lk lf ll uk uf ul : Int} (h : fitsV k n lk lf ll uk uf ul = 0) : formB k n = true ∧ rightS lk lf ll = true ∧ rightS uk uf ul = true ∧ fitsB k lk uk = true := by
  cases h1 : formB k n
  · rw [fv_form h1] at h; cases h
  cases h2 : rightS lk lf ll
  · rw [fv_low h1 h2] at h; cases h
  cases h3 : rightS uk uf ul
  · rw [fv_up h1 h2 h3] at h; cases h
  cases h4 : fitsB k lk uk
  · rw [fv_fit h1 h2 h3 h4] at h; cases h
  exact ⟨rfl, rfl, rfl, rfl⟩
end Go.Proofs.YtkapkfddbdgmoaaDoor.Wi
