/- The laws on the fitting of mappings, and on their texts. -/
import Derived.Test.YtkapkfddbdgmoaaDoorWinWalk4
set_option linter.unusedVariables false
set_option linter.unusedSimpArgs false
namespace Go.Proofs.YtkapkfddbdgmoaaDoor.Wi
open Go.RowKit Go Go.Sort Ba Sc
open Cal hiding ret_int ret_bool lt_of_cell

set_option maxRecDepth 100000 in
set_option maxHeartbeats 3200000 in
theorem wchecks_law (k n lk lf ll uk uf ul : Int) (w : World) (a0 : -9223372036854775808 ≤ lf) (a1 : ll ≤ 9223372036854775807) (c0 : -9223372036854775808 ≤ uf) (c1 : ul ≤ 9223372036854775807) (hE : EnvW w) :
    Calls Tryd.prog 10 #[.agg #[.int .i64 k, .int .i64 n, .int .i64 lk, .int .i64 lf, .int .i64 ll, .int .i64 uk, .int .i64 uf, .int .i64 ul]] w fun e w' => e = .returned (.bool true) ∧ Below w.heap.size w w' := by
  have HE := Lib.hid hE
  have bw : Below w.heap.size w (w.alloc (.cells #[.int .i64 k, .int .i64 n, .int .i64 lk, .int .i64 lf, .int .i64 ll, .int .i64 uk, .int .i64 uf, .int .i64 ul] 51)) := by go_grown
  have Q := Box.new w [.int .i64 k, .int .i64 n, .int .i64 lk, .int .i64 lf, .int .i64 ll, .int .i64 uk, .int .i64 uf, .int .i64 ul] 51
  obtain ⟨q, hq⟩ : ∃ q, fitsV k n lk lf ll uk uf ul = q := ⟨_, rfl⟩
  have hA := fun W h => winCheck_is k n lk lf ll uk uf ul W a0 a1 c0 c1 h
  have hB := fun W => fits_is k n lk lf ll uk uf ul W a0 a1 c0 c1
  rw [hq] at hA hB
  have HA := Lib.hid hA
  have HB := Lib.hid hB
  clear hA hB hq hE
  obtain ⟨q0, q1, q2, q3, q4, q5, q6, q7⟩ := Box.eight Q
  go_enter Tryd.func10, Tryd.ntmps10
  go_wp2_with fail
  have q0 := cell_regrown q0
  have q1 := cell_regrown q1
  have q2 := cell_regrown q2
  have q3 := cell_regrown q3
  have q4 := cell_regrown q4
  have q5 := cell_regrown q5
  have q6 := cell_regrown q6
  have q7 := cell_regrown q7
  have cA := qcall (w := w.alloc (.cells #[.int .i64 k, .int .i64 n, .int .i64 lk, .int .i64 lf, .int .i64 ll, .int .i64 uk, .int .i64 uf, .int .i64 ul] 51)) fun W' hb => HA.out W' (HE.out.below (two bw hb))
  have cB := qcall (w := w.alloc (.cells #[.int .i64 k, .int .i64 n, .int .i64 lk, .int .i64 lf, .int .i64 ll, .int .i64 uk, .int .i64 uf, .int .i64 ul] 51)) fun W' _ => HB.out W'
  have cC := qcall (w := w.alloc (.cells #[.int .i64 k, .int .i64 n, .int .i64 lk, .int .i64 lf, .int .i64 ll, .int .i64 uk, .int .i64 uf, .int .i64 ul] 51)) fun W' hb => wawake_any W' (HE.out.below (two bw hb))
  refine wp_region_quiet_below (by kernel_rfl) (by kernel_rfl) ?_
  repeat (go_big_quiet_step (with_reducible (first | exact cA _ _ | exact cB _ _ | exact cC _ _)))
  refine wpQuiet_nil ?_
  intro _ hw'
  obtain ⟨⟨dq1, os1⟩, hw''⟩ := hw'
  subst hw''
  have bw := two bw (below_regrown _ dq1 os1)
  go_wp2_with fail
  go_ret
  exact ⟨rfl, bw⟩

theorem wlit_word (k : Nat) (h : k < 6) : (#[.string ⟨#[]⟩, .string ⟨#[115, 97, 109, 101]⟩, .string ⟨#[108, 97, 115, 116]⟩, .string ⟨#[115, 104, 105, 102, 116]⟩, .string ⟨#[119, 105, 116, 104, 105, 110]⟩, .string ⟨#[97, 108, 108]⟩] : Array Value)[k]? = some (.string (wword k)) := by
  rcases k6 h with rfl | rfl | rfl | rfl | rfl | rfl <;> rfl
set_option maxHeartbeats 1600000 in
theorem refMShow_is (k : Nat) (n : Int) (x : ByteArray) (w : World) (hr : formB k n = true) (hx : mapB k n = x) :
    Calls Tryd.prog 39 #[.agg #[.int .i64 k, .int .i64 n]] w fun e w' => e = .returned (.string x) ∧ Below w.heap.size w w' := by
  obtain ⟨k6', _, k1, n0, n1⟩ := form_rng hr
  simp only [Int.toNat_natCast] at k6' k1
  have hk : k = 1 ∨ k = 4 ∨ k = 5 ∨ k = 2 ∨ k = 3 := by omega
  have fs := Lib.itoa_length_le n (by omega) (by omega)
  obtain ⟨A, hA⟩ : ∃ A : ByteArray, (⟨(Lib.itoa n).toArray⟩ : ByteArray) = A := ⟨_, rfl⟩
  have As : A.size ≤ 21 := by rw [← hA, str_size]; exact fs
  have cF := fun W => number_any n W (by omega) (by omega)
  rw [hA] at cF
  have CF := Lib.hid cF
  unfold formB at hr
  rw [decide_eq_true_eq] at hr
  rcases hk with rfl | rfl | rfl | rfl | rfl
  · obtain rfl : n = 0 := by omega
    rw [mapB_zero] at hx
    subst hx
    clear hr cF hA fs
    go_enter Tryd.func39, Tryd.ntmps39
    go_wp2_with fail
    go_ret
    exact ⟨rfl, by go_grown⟩
  · obtain rfl : n = 0 := by omega
    rw [mapB_zero] at hx
    subst hx
    clear hr cF hA fs
    go_enter Tryd.func39, Tryd.ntmps39
    go_wp2_with fail
    go_ret
    exact ⟨rfl, by go_grown⟩
  · obtain rfl : n = 0 := by omega
    rw [mapB_zero] at hx
    subst hx
    clear hr cF hA fs
    go_enter Tryd.func39, Tryd.ntmps39
    go_wp2_with fail
    go_ret
    exact ⟨rfl, by go_grown⟩
  · have hn : n ≠ 0 := by omega
    have HX : Hid (x = wword 2 ++ ⟨#[32]⟩ ++ A) := by show x = wword 2 ++ ⟨#[32]⟩ ++ A; rw [← hx, ← hA]; unfold mapB; rw [if_neg hn]
    clear hr cF hA fs hx hn
    go_enter Tryd.func39, Tryd.ntmps39
    go_wp2_with fail
    refine (CF.out _).mono ?_
    rintro e w1 ⟨rfl, hb⟩
    have bw := next (w := w) (B := w.heap.size) (by go_grown) hb (by simp <;> omega)
    clear hb
    go_wp2_with fail
    go_ret
    exact ⟨ret_str (by rw [HX.out]; rfl), bw⟩
  · have hn : n ≠ 0 := by omega
    have HX : Hid (x = wword 3 ++ ⟨#[32]⟩ ++ A) := by show x = wword 3 ++ ⟨#[32]⟩ ++ A; rw [← hx, ← hA]; unfold mapB; rw [if_neg hn]
    clear hr cF hA fs hx hn
    go_enter Tryd.func39, Tryd.ntmps39
    go_wp2_with fail
    refine (CF.out _).mono ?_
    rintro e w1 ⟨rfl, hb⟩
    have bw := next (w := w) (B := w.heap.size) (by go_grown) hb (by simp <;> omega)
    clear hb
    go_wp2_with fail
    go_ret
    exact ⟨ret_str (by rw [HX.out]; rfl), bw⟩
end Go.Proofs.YtkapkfddbdgmoaaDoor.Wi
