/- Walks: mappings: their form; stretches of partitions. -/
import Derived.Test.YtkapkfddbdgmoaaDoorSchChk
set_option linter.unusedVariables false
set_option linter.unusedSimpArgs false
namespace Go.Proofs.YtkapkfddbdgmoaaDoor.Wi
open Go.RowKit Go Go.Sort Ba Sc
open Cal hiding ret_int ret_bool lt_of_cell

/-- The words of the kinds. -/
def wwords : List ByteArray := [⟨#[]⟩, ⟨#[115, 97, 109, 101]⟩, ⟨#[108, 97, 115, 116]⟩, ⟨#[115, 104, 105, 102, 116]⟩, ⟨#[119, 105, 116, 104, 105, 110]⟩, ⟨#[97, 108, 108]⟩]
def wword (k : Nat) : ByteArray := wwords.getD k ByteArray.empty
/-- What the listed variables hold, as the walks of mappings lean on it. -/
structure EnvW (w : World) : Prop where
  tab : Lib.TabIs Tryd.prog w "internal/strconv.uint64pow10" .u64 Lib.pow10Tab
  len : Len w
  words : ∀ j, j < 6 → w.cell? ⟨1, j, none⟩ = some (.string (wword j))
theorem EnvW.below {w w' : World} (h : EnvW w) (hb : Below w.heap.size w w') : EnvW w' := by
  obtain ⟨h1, h2, h5⟩ := h
  have hg : Tryd.prog.globalNamed "internal/strconv.uint64pow10" = some 6 := by kernel_rfl
  have h0 := Lib.TabIs.cell h1 hg 0 (by decide)
  exact ⟨var?_below hb hg (lt_of_cell h0) h1, Len.below h2 hb, fun j hj => (hb.cell (lt_of_cell (h5 j hj))).trans (h5 j hj)⟩

/-- Are the kind and the number as they must be? -/
def formB (k n : Int) : Bool := decide ((k = 1 ∨ k = 4 ∨ k = 5) ∧ n = 0 ∨ k = 2 ∧ 1 ≤ n ∧ n ≤ 512 ∨ k = 3 ∧ n ≠ 0 ∧ -512 ≤ n ∧ n ≤ 512)
set_option maxHeartbeats 1600000 in
theorem form_any (k n : Int) (w : World) :
    Calls Tryd.prog 55 #[.agg #[.int .i64 k, .int .i64 n]] w fun e w' => e = .returned (.bool (formB k n)) ∧ Below w.heap.size w w' := by
  by_cases k1 : k = 1
  · subst k1
    go_enter Tryd.func55, Tryd.ntmps55
    go_wp2_with fail
    go_ret
    exact ⟨ret_bool (by rw [Bool.eq_iff_iff]; unfold formB; simp <;> omega), by go_grown⟩
  have e1 : (k == 1) = false := by simpa using k1
  by_cases k4 : k = 4
  · subst k4
    go_enter Tryd.func55, Tryd.ntmps55
    go_wp2_with fail
    go_ret
    exact ⟨ret_bool (by rw [Bool.eq_iff_iff]; unfold formB; simp <;> omega), by go_grown⟩
  have e4 : (k == 4) = false := by simpa using k4
  by_cases k5 : k = 5
  · subst k5
    go_enter Tryd.func55, Tryd.ntmps55
    go_wp2_with fail
    go_ret
    exact ⟨ret_bool (by rw [Bool.eq_iff_iff]; unfold formB; simp <;> omega), by go_grown⟩
  have e5 : (k == 5) = false := by simpa using k5
  by_cases k2 : k = 2
  · subst k2
    clear k1 k4 k5
    by_cases a : 1 ≤ n
    · go_enter Tryd.func55, Tryd.ntmps55
      go_wp2_with fail
      go_ret
      exact ⟨ret_bool (by rw [Bool.eq_iff_iff]; unfold formB; simp <;> omega), by go_grown⟩
    · have a' : decide (1 ≤ n) = false := decide_eq_false a
      go_enter Tryd.func55, Tryd.ntmps55
      go_wp2_with fail
      go_ret
      exact ⟨ret_bool (by rw [Bool.eq_iff_iff]; unfold formB; simp <;> omega), by go_grown⟩
  have e2 : (k == 2) = false := by simpa using k2
  by_cases k3 : k = 3
  · subst k3
    clear k1 k4 k5 k2
    by_cases z : n = 0
    · subst z
      go_enter Tryd.func55, Tryd.ntmps55
      go_wp2_with fail
      go_ret
      exact ⟨ret_bool (by rw [Bool.eq_iff_iff]; unfold formB; simp <;> omega), by go_grown⟩
    have z1 : (n != 0) = true := by simpa using z
    by_cases a : -512 ≤ n
    · go_enter Tryd.func55, Tryd.ntmps55
      go_wp2_with fail
      go_ret
      exact ⟨ret_bool (by rw [Bool.eq_iff_iff]; unfold formB; simp <;> omega), by go_grown⟩
    · have a' : decide (-512 ≤ n) = false := decide_eq_false a
      go_enter Tryd.func55, Tryd.ntmps55
      go_wp2_with fail
      go_ret
      exact ⟨ret_bool (by rw [Bool.eq_iff_iff]; unfold formB; simp <;> omega), by go_grown⟩
  have e3 : (k == 3) = false := by simpa using k3
  have HF : Hid (formB k n = false) := by show formB k n = false; unfold formB; apply decide_eq_false; omega
  clear k1 k2 k3 k4 k5
  go_enter Tryd.func55, Tryd.ntmps55
  go_wp2_with fail
  go_ret
  exact ⟨ret_bool HF.out.symm, by go_grown⟩
set_option maxHeartbeats 1600000 in
theorem refForm_any (k n : Int) (w : World) :
    Calls Tryd.prog 37 #[.agg #[.int .i64 k, .int .i64 n]] w fun e w' => e = .returned (.bool (formB k n)) ∧ Below w.heap.size w w' := by
  by_cases k1 : k = 1
  · subst k1
    go_enter Tryd.func37, Tryd.ntmps37
    go_wp2_with fail
    go_ret
    exact ⟨ret_bool (by rw [Bool.eq_iff_iff]; unfold formB; simp <;> omega), by go_grown⟩
  have e1 : (k == 1) = false := by simpa using k1
  by_cases k4 : k = 4
  · subst k4
    go_enter Tryd.func37, Tryd.ntmps37
    go_wp2_with fail
    go_ret
    exact ⟨ret_bool (by rw [Bool.eq_iff_iff]; unfold formB; simp <;> omega), by go_grown⟩
  have e4 : (k == 4) = false := by simpa using k4
  by_cases k5 : k = 5
  · subst k5
    go_enter Tryd.func37, Tryd.ntmps37
    go_wp2_with fail
    go_ret
    exact ⟨ret_bool (by rw [Bool.eq_iff_iff]; unfold formB; simp <;> omega), by go_grown⟩
  have e5 : (k == 5) = false := by simpa using k5
  by_cases k2 : k = 2
  · subst k2
    clear k1 k4 k5
    by_cases a : 1 ≤ n
    · go_enter Tryd.func37, Tryd.ntmps37
      go_wp2_with fail
      go_ret
      exact ⟨ret_bool (by rw [Bool.eq_iff_iff]; unfold formB; simp <;> omega), by go_grown⟩
    · have a' : decide (1 ≤ n) = false := decide_eq_false a
      go_enter Tryd.func37, Tryd.ntmps37
      go_wp2_with fail
      go_ret
      exact ⟨ret_bool (by rw [Bool.eq_iff_iff]; unfold formB; simp <;> omega), by go_grown⟩
  have e2 : (k == 2) = false := by simpa using k2
  by_cases k3 : k = 3
  · subst k3
    clear k1 k4 k5 k2
    by_cases z : n = 0
    · subst z
      go_enter Tryd.func37, Tryd.ntmps37
      go_wp2_with fail
      go_ret
      exact ⟨ret_bool (by rw [Bool.eq_iff_iff]; unfold formB; simp <;> omega), by go_grown⟩
    have z1 : (n != 0) = true := by simpa using z
    by_cases a : -512 ≤ n
    · go_enter Tryd.func37, Tryd.ntmps37
      go_wp2_with fail
      go_ret
      exact ⟨ret_bool (by rw [Bool.eq_iff_iff]; unfold formB; simp <;> omega), by go_grown⟩
    · have a' : decide (-512 ≤ n) = false := decide_eq_false a
      go_enter Tryd.func37, Tryd.ntmps37
      go_wp2_with fail
      go_ret
      exact ⟨ret_bool (by rw [Bool.eq_iff_iff]; unfold formB; simp <;> omega), by go_grown⟩
  have e3 : (k == 3) = false := by simpa using k3
  have HF : Hid (formB k n = false) := by show formB k n = false; unfold formB; apply decide_eq_false; omega
  clear k1 k2 k3 k4 k5
  go_enter Tryd.func37, Tryd.ntmps37
  go_wp2_with fail
  go_ret
  exact ⟨ret_bool HF.out.symm, by go_grown⟩
theorem form_is (k n : Int) (r : Bool) (w : World) (h : formB k n = r) :
    Calls Tryd.prog 55 #[.agg #[.int .i64 k, .int .i64 n]] w fun e w' => e = .returned (.bool r) ∧ Below w.heap.size w w' := by
  rw [← h]; exact form_any k n w
theorem refForm_is (k n : Int) (r : Bool) (w : World) (h : formB k n = r) :
    Calls Tryd.prog 37 #[.agg #[.int .i64 k, .int .i64 n]] w fun e w' => e = .returned (.bool r) ∧ Below w.heap.size w w' := by
  rw [← h]; exact refForm_any k n w
theorem ref12_is (k f l : Int) (w : World) :
    Calls Tryd.prog 51 #[.agg #[.int .i64 k, .int .i64 f, .int .i64 l]] w fun e w' => e = .returned (.agg #[.int .i64 k, .int .i64 f, .int .i64 l]) ∧ Below w.heap.size w w' := by
  go_enter Tryd.func51, Tryd.ntmps51
  go_wp2_with fail
  go_returns
  exact ⟨rfl, by go_grown⟩
/-- Does a mapping of a right form fit two right schemes? -/
def fitsB (k lk uk : Int) : Bool := decide ((k ≤ 3 → lk = uk) ∧ (k = 4 → lk ≠ 5 ∧ uk ≠ 5))
theorem form_k {k n : Int} (h : formB k n = true) : 1 ≤ k ∧ k ≤ 5 := by unfold formB at h; rw [decide_eq_true_eq] at h; omega
set_option maxHeartbeats 1600000 in
theorem refFits_is (k n lk lf ll uk uf ul : Int) (r : Bool) (w : World) (h1 : 1 ≤ k) (h2 : k ≤ 5) (hr : fitsB k lk uk = r) :
    Calls Tryd.prog 52 #[.agg #[.int .i64 k, .int .i64 n], .agg #[.int .i64 lk, .int .i64 lf, .int .i64 ll], .agg #[.int .i64 uk, .int .i64 uf, .int .i64 ul]] w fun e w' => e = .returned (.bool r) ∧ Below w.heap.size w w' := by
  subst hr
  by_cases c : k ≤ 3
  · go_enter Tryd.func52, Tryd.ntmps52
    go_wp2_with fail
    go_ret
    exact ⟨ret_bool (by rw [Bool.eq_iff_iff]; unfold fitsB; simp <;> omega), by go_grown⟩
  by_cases k5 : k = 5
  · subst k5
    clear c
    go_enter Tryd.func52, Tryd.ntmps52
    go_wp2_with fail
    go_ret
    exact ⟨ret_bool (by unfold fitsB; symm; apply decide_eq_true; omega), by go_grown⟩
  obtain rfl : k = 4 := by omega
  by_cases l5 : lk = 5
  · subst l5
    clear c k5
    go_enter Tryd.func52, Tryd.ntmps52
    go_wp2_with fail
    go_ret
    exact ⟨ret_bool (by unfold fitsB; symm; apply decide_eq_false; omega), by go_grown⟩
  · have e5 : (lk != 5) = true := by simpa using l5
    have L5 := Lib.hid l5
    clear c k5 l5
    go_enter Tryd.func52, Tryd.ntmps52
    go_wp2_with fail
    go_ret
    exact ⟨ret_bool (by have := L5.out; rw [Bool.eq_iff_iff]; unfold fitsB; simp <;> omega), by go_grown⟩
end Go.Proofs.YtkapkfddbdgmoaaDoor.Wi
