/- Walks: which schemes are right, in the program's word and the document's; how many partitions; which there are. -/
import Derived.Test.YtkapkfddbdgmoaaDoorSchWalk1
set_option linter.unusedVariables false
set_option linter.unusedSimpArgs false
namespace Go.Proofs.YtkapkfddbdgmoaaDoor.Sc
open Go.RowKit Go Go.Sort Ba
open Cal hiding ret_int ret_bool lt_of_cell

/-- Is a scheme right? -/
def rightS (k f l : Int) : Bool := decide (1 ≤ k ∧ k ≤ 5 ∧ 0 ≤ f ∧ f ≤ l ∧ l - f < 512) && (if k = 5 then decide (l < 1048576) else decide (l < 2147483648) && decide (0 ≤ startV k (l + 1)))
theorem rs_out {k f l : Int} (h : ¬ (1 ≤ k ∧ k ≤ 5 ∧ 0 ≤ f ∧ f ≤ l ∧ l - f < 512)) : rightS k f l = false := by
  unfold rightS; rw [decide_eq_false h]; rfl
theorem rs_st {f l : Int} (h : 0 ≤ f ∧ f ≤ l ∧ l - f < 512) (b : Bool) (hb : decide (l < 1048576) = b) : rightS 5 f l = b := by
  unfold rightS
  rw [decide_eq_true (by omega : 1 ≤ (5 : Int) ∧ (5 : Int) ≤ 5 ∧ 0 ≤ f ∧ f ≤ l ∧ l - f < 512), if_pos rfl, hb]; rfl
theorem rs_far {k f l : Int} (h5 : k ≠ 5) (h : 2147483648 ≤ l) : rightS k f l = false := by
  unfold rightS
  rw [if_neg h5, decide_eq_false (by omega : ¬ l < 2147483648)]; simp
theorem rs_in {k f l : Int} (h5 : k ≠ 5) (h : 1 ≤ k ∧ k ≤ 5 ∧ 0 ≤ f ∧ f ≤ l ∧ l - f < 512) (h2 : l < 2147483648) (b : Bool) (hb : decide (0 ≤ startV k (l + 1)) = b) : rightS k f l = b := by
  unfold rightS
  rw [decide_eq_true h, if_neg h5, decide_eq_true h2, hb]; rfl
/-- What a right scheme is. -/
structure RS (k f l : Int) : Prop where
  k1 : 1 ≤ k
  k2 : k ≤ 5
  f0 : 0 ≤ f
  fl : f ≤ l
  lf : l - f < 512
  st : k = 5 → l < 1048576
  far : l < 2147483648
  end_ : k ≠ 5 → 0 ≤ startV k (l + 1)
theorem rs_iff {k f l : Int} (h : rightS k f l = true) : RS k f l := by
  unfold rightS at h
  rw [Bool.and_eq_true, decide_eq_true_eq] at h
  obtain ⟨⟨a, b, c, d, e⟩, g⟩ := h
  by_cases h5 : k = 5
  · rw [if_pos h5, decide_eq_true_eq] at g
    exact ⟨a, b, c, d, e, fun _ => g, by omega, fun h => absurd h5 h⟩
  · rw [if_neg h5, Bool.and_eq_true, decide_eq_true_eq, decide_eq_true_eq] at g
    exact ⟨a, b, c, d, e, fun h => absurd h h5, g.1, fun _ => g.2⟩
set_option maxHeartbeats 1600000 in
theorem check_is (k f l : Int) (r : Bool) (w : World) (hL : Len w) (b0 : -9223372036854775808 ≤ f) (b1 : l ≤ 9223372036854775807) (hr : rightS k f l = r) :
    Calls Tryd.prog 23 #[.agg #[.int .i64 k, .int .i64 f, .int .i64 l]] w fun e w' => e = .returned (.int .i64 (if r = true then 0 else 54)) ∧ Below w.heap.size w w' := by
  have HL := Lib.hid (Len.below hL (show Below w.heap.size w (w.alloc (.cells #[.int .i64 k, .int .i64 f, .int .i64 l] 23)) by go_grown))
  clear hL
  by_cases c : k < 1
  · rw [rs_out (by omega)] at hr
    subst hr
    go_enter Tryd.func23, Tryd.ntmps23
    go_wp2_with fail
    go_ret
    exact ⟨rfl, by go_grown⟩
  by_cases c : 5 < k
  · rw [rs_out (by omega)] at hr
    subst hr
    go_enter Tryd.func23, Tryd.ntmps23
    go_wp2_with fail
    go_ret
    exact ⟨rfl, by go_grown⟩
  by_cases c : f < 0
  · rw [rs_out (by omega)] at hr
    subst hr
    go_enter Tryd.func23, Tryd.ntmps23
    go_wp2_with fail
    go_ret
    exact ⟨rfl, by go_grown⟩
  by_cases c : l < f
  · rw [rs_out (by omega)] at hr
    subst hr
    go_enter Tryd.func23, Tryd.ntmps23
    go_wp2_with fail
    go_ret
    exact ⟨rfl, by go_grown⟩
  by_cases c : 512 ≤ l - f
  · rw [rs_out (by omega)] at hr
    subst hr
    go_enter Tryd.func23, Tryd.ntmps23
    go_wp2_with fail
    go_ret
    exact ⟨rfl, by go_grown⟩
  by_cases h5 : k = 5
  · subst h5
    by_cases h2 : 1048576 ≤ l
    · rw [rs_st (by omega) false (decide_eq_false (by omega))] at hr
      subst hr
      go_enter Tryd.func23, Tryd.ntmps23
      go_wp2_with fail
      go_ret
      exact ⟨rfl, by go_grown⟩
    · rw [rs_st (by omega) true (decide_eq_true (by omega))] at hr
      subst hr
      go_enter Tryd.func23, Tryd.ntmps23
      go_wp2_with fail
      go_ret
      exact ⟨rfl, by go_grown⟩
  have e5 : (k == 5) = false := by simpa using h5
  by_cases h2 : 2147483648 ≤ l
  · rw [rs_far h5 h2] at hr
    subst hr
    clear h5
    go_enter Tryd.func23, Tryd.ntmps23
    go_wp2_with fail
    go_ret
    exact ⟨rfl, by go_grown⟩
  obtain ⟨q, hq⟩ : ∃ q, startV k (l + 1) = q := ⟨_, rfl⟩
  have HQ := Lib.hid hq
  by_cases h3 : q < 0
  · rw [rs_in h5 (by omega) (by omega) false (decide_eq_false (by omega))] at hr
    subst hr
    clear h5 hq
    go_enter Tryd.func23, Tryd.ntmps23
    go_wp2_with fail
    refine (start_is k f l (l + 1) q _ HL.out (by omega) (by omega) HQ.out).mono ?_
    rintro e w1 ⟨rfl, hb⟩
    have b1 := two (w := w) (by go_grown) hb
    go_wp2_with fail
    go_ret
    exact ⟨rfl, b1⟩
  · rw [rs_in h5 (by omega) (by omega) true (decide_eq_true (by omega))] at hr
    subst hr
    clear h5 hq
    go_enter Tryd.func23, Tryd.ntmps23
    go_wp2_with fail
    refine (start_is k f l (l + 1) q _ HL.out (by omega) (by omega) HQ.out).mono ?_
    rintro e w1 ⟨rfl, hb⟩
    have b1 := two (w := w) (by go_grown) hb
    go_wp2_with fail
    go_ret
    exact ⟨rfl, b1⟩
set_option maxHeartbeats 1600000 in
theorem refRight_is (k f l : Int) (r : Bool) (w : World) (b0 : -9223372036854775808 ≤ f) (b1 : l ≤ 9223372036854775807) (hr : rightS k f l = r) :
    Calls Tryd.prog 15 #[.agg #[.int .i64 k, .int .i64 f, .int .i64 l]] w fun e w' => e = .returned (.bool r) ∧ Below w.heap.size w w' := by
  by_cases c : k < 1
  · rw [rs_out (by omega)] at hr
    subst hr
    go_enter Tryd.func15, Tryd.ntmps15
    go_wp2_with fail
    go_ret
    exact ⟨rfl, by go_grown⟩
  by_cases c : 5 < k
  · rw [rs_out (by omega)] at hr
    subst hr
    go_enter Tryd.func15, Tryd.ntmps15
    go_wp2_with fail
    go_ret
    exact ⟨rfl, by go_grown⟩
  by_cases c : f < 0
  · rw [rs_out (by omega)] at hr
    subst hr
    go_enter Tryd.func15, Tryd.ntmps15
    go_wp2_with fail
    go_ret
    exact ⟨rfl, by go_grown⟩
  by_cases c : l < f
  · rw [rs_out (by omega)] at hr
    subst hr
    go_enter Tryd.func15, Tryd.ntmps15
    go_wp2_with fail
    go_ret
    exact ⟨rfl, by go_grown⟩
  by_cases c : 512 ≤ l - f
  · rw [rs_out (by omega)] at hr
    subst hr
    go_enter Tryd.func15, Tryd.ntmps15
    go_wp2_with fail
    go_ret
    exact ⟨rfl, by go_grown⟩
  by_cases h5 : k = 5
  · subst h5
    by_cases h2 : 1048576 ≤ l
    · rw [rs_st (by omega) false (decide_eq_false (by omega))] at hr
      subst hr
      by_cases h6 : 2147483647 < l
      · go_enter Tryd.func15, Tryd.ntmps15
        go_wp2_with fail
        go_ret
        exact ⟨rfl, by go_grown⟩
      · go_enter Tryd.func15, Tryd.ntmps15
        go_wp2_with fail
        go_ret
        exact ⟨ret_bool (decide_eq_false (by omega)), by go_grown⟩
    · rw [rs_st (by omega) true (decide_eq_true (by omega))] at hr
      subst hr
      go_enter Tryd.func15, Tryd.ntmps15
      go_wp2_with fail
      go_ret
      exact ⟨(by first | exact rfl | exact ret_bool (decide_eq_true (by omega))), by go_grown⟩
  have e5 : (k == 5) = false := by simpa using h5
  by_cases h2 : 2147483648 ≤ l
  · rw [rs_far h5 h2] at hr
    subst hr
    clear h5
    go_enter Tryd.func15, Tryd.ntmps15
    go_wp2_with fail
    go_ret
    exact ⟨rfl, by go_grown⟩
  obtain ⟨q, hq⟩ : ∃ q, startV k (l + 1) = q := ⟨_, rfl⟩
  have HQ := Lib.hid hq
  by_cases h3 : q < 0
  · rw [rs_in h5 (by omega) (by omega) false (decide_eq_false (by omega))] at hr
    subst hr
    clear h5 hq
    go_enter Tryd.func15, Tryd.ntmps15
    go_wp2_with fail
    refine (refStart_is k (l + 1) q _ (by omega) (by omega) HQ.out).mono ?_
    rintro e w1 ⟨rfl, rfl⟩
    go_wp2_with fail
    go_ret
    exact ⟨ret_bool (decide_eq_false (by omega)), by go_grown⟩
  · rw [rs_in h5 (by omega) (by omega) true (decide_eq_true (by omega))] at hr
    subst hr
    clear h5 hq
    go_enter Tryd.func15, Tryd.ntmps15
    go_wp2_with fail
    refine (refStart_is k (l + 1) q _ (by omega) (by omega) HQ.out).mono ?_
    rintro e w1 ⟨rfl, rfl⟩
    go_wp2_with fail
    go_ret
    exact ⟨(by first | exact rfl | exact ret_bool (decide_eq_true (by omega))), by go_grown⟩
theorem count_is (k f l c : Int) (w : World) (h0 : 0 ≤ f) (h1 : f ≤ l) (h2 : l ≤ 2147483648) (hc : l - f + 1 = c) :
    Calls Tryd.prog 25 #[.agg #[.int .i64 k, .int .i64 f, .int .i64 l]] w fun e w' => e = .returned (.int .i64 c) ∧ Below w.heap.size w w' := by
  have HC := Lib.hid hc
  clear hc
  go_enter Tryd.func25, Tryd.ntmps25
  go_wp2_with fail
  go_ret
  exact ⟨ret_int HC.out, by go_grown⟩
theorem has_is (k f l i : Int) (r : Bool) (w : World) (hr : decide (f ≤ i ∧ i ≤ l) = r) :
    Calls Tryd.prog 26 #[.agg #[.int .i64 k, .int .i64 f, .int .i64 l], .int .i64 i] w fun e w' => e = .returned (.bool r) ∧ Below w.heap.size w w' := by
  by_cases c1 : f ≤ i
  · by_cases c2 : i ≤ l
    · rw [decide_eq_true ⟨c1, c2⟩] at hr
      subst hr
      go_enter Tryd.func26, Tryd.ntmps26
      go_wp2_with fail
      go_ret
      exact ⟨rfl, by go_grown⟩
    · rw [decide_eq_false (by omega)] at hr
      subst hr
      go_enter Tryd.func26, Tryd.ntmps26
      go_wp2_with fail
      go_ret
      exact ⟨rfl, by go_grown⟩
  · rw [decide_eq_false (by omega)] at hr
    subst hr
    go_enter Tryd.func26, Tryd.ntmps26
    go_wp2_with fail
    go_ret
    exact ⟨rfl, by go_grown⟩
theorem ref_is (k f l : Int) (w : World) :
    Calls Tryd.prog 16 #[.agg #[.int .i64 k, .int .i64 f, .int .i64 l]] w fun e w' => e = .returned (.agg #[.int .i64 k, .int .i64 f, .int .i64 l]) ∧ Below w.heap.size w w' := by
  go_enter Tryd.func16, Tryd.ntmps16
  go_wp2_with fail
  go_returns
  exact ⟨rfl, by go_grown⟩
/-- The window of a partition: where it begins, where it ends, and the error. -/
def WinV (k f l i a b e : Int) : Prop :=
  (¬ (f ≤ i ∧ i ≤ l) ∧ a = 0 ∧ b = 0 ∧ e = 30) ∨ ((f ≤ i ∧ i ≤ l) ∧ k = 5 ∧ a = 0 ∧ b = 0 ∧ e = 54) ∨ ((f ≤ i ∧ i ≤ l) ∧ k ≠ 5 ∧ startV k i = a ∧ startV k (i + 1) = b ∧ e = 0)
set_option maxHeartbeats 1600000 in
theorem window_is (k f l i a b e : Int) (w : World) (hL : Len w) (h0 : 0 ≤ f) (h1 : l < 2147483648) (hv : WinV k f l i a b e) :
    Calls Tryd.prog 18 #[.agg #[.int .i64 k, .int .i64 f, .int .i64 l], .int .i64 i] w fun en w' => en = .returned (.tuple #[.int .i64 a, .int .i64 b, .int .i64 e]) ∧ Below w.heap.size w w' := by
  have b0 : Below w.heap.size w (w.alloc (.cells #[.int .i64 k, .int .i64 f, .int .i64 l] 23)) := by go_grown
  have HL := Lib.hid (Len.below hL b0)
  clear hL
  rcases hv with ⟨hn, rfl, rfl, rfl⟩ | ⟨hy, rfl, rfl, rfl, rfl⟩ | ⟨hy, h5, ha, hb', rfl⟩
  · have HN := Lib.hid hn
    clear hn
    go_enter Tryd.func18, Tryd.ntmps18
    go_wp2_with fail
    refine (has_is k f l i false _ (decide_eq_false HN.out)).mono ?_
    rintro e w1 ⟨rfl, hb⟩
    have b1 := two b0 hb
    clear hb
    go_wp2_with fail
    go_returns
    exact ⟨rfl, b1⟩
  · have HY := Lib.hid hy
    clear hy
    go_enter Tryd.func18, Tryd.ntmps18
    go_wp2_with fail
    refine (has_is 5 f l i true _ (decide_eq_true HY.out)).mono ?_
    rintro e w1 ⟨rfl, hb⟩
    have c0 : w1.cell? ⟨w.heap.size, 0, none⟩ = some (.int .i64 5) := box hb (by simp) 0
    have b1 := two b0 hb
    clear hb
    go_wp2_with fail
    go_returns
    exact ⟨rfl, b1⟩
  · have e5 : (k == 5) = false := by simpa using h5
    have i0 : 0 ≤ i := by omega
    have i1 : i < 2147483648 := by omega
    have HY := Lib.hid hy
    have HA := Lib.hid ha
    have HB := Lib.hid hb'
    have hw1 : IntKind.i64.wrap (i + 1) = i + 1 := IntWalk.i64_in _ (by omega)
    clear hy ha hb' h5
    go_enter Tryd.func18, Tryd.ntmps18
    go_wp2_with fail
    refine (has_is k f l i true _ (decide_eq_true HY.out)).mono ?_
    rintro e w1 ⟨rfl, hb⟩
    have c0 : w1.cell? ⟨w.heap.size, 0, none⟩ = some (.int .i64 k) := box hb (by simp) 0
    have c1 : w1.cell? ⟨w.heap.size, 1, none⟩ = some (.int .i64 f) := box hb (by simp) 1
    have c2 : w1.cell? ⟨w.heap.size, 2, none⟩ = some (.int .i64 l) := box hb (by simp) 2
    have HL1 := Lib.hid (Len.below HL.out hb)
    have b1 := two b0 hb
    clear hb
    go_wp2_with fail
    have k0 := cell_regrown c0
    have k1 := cell_regrown c1
    have k2 := cell_regrown c2
    have cA := qcall (w := w1) fun W' hb => start_is k f l i a W' (Len.below HL1.out hb) i0 (by omega) HA.out
    have cB := qcall (w := w1) fun W' hb => start_is k f l (i + 1) b W' (Len.below HL1.out hb) (by omega) (by omega) HB.out
    refine wp_region_quiet_below (by kernel_rfl) (by kernel_rfl) ?_
    repeat (go_big_quiet_step (with_reducible (first | exact cA _ _ | exact cB _ _)))
    refine wpQuiet_nil ?_
    intro _ hw'
    obtain ⟨⟨dq1, os1⟩, hw''⟩ := hw'
    subst hw''
    go_wp2_with fail
    go_returns
    exact ⟨rfl, two b1 (below_regrown _ _ _)⟩
end Go.Proofs.YtkapkfddbdgmoaaDoor.Sc
