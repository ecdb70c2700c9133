/- Walks: the date of a minute. -/
import Derived.Test.YtmjcdnlcdkeoaaaDoorCalWalk2
set_option linter.unusedVariables false
set_option linter.unusedSimpArgs false
namespace Go.Proofs.YtmjcdnlcdkeoaaaDoor.Cal
open Go.RowKit Go

theorem lt_of_cell {w : World} {b o : Nat} {v : Value} (h : w.cell? ⟨b, o, none⟩ = some v) : b < w.heap.size := by
  apply Classical.byContradiction
  intro hn
  have : w.heap[b]? = none := by simp; omega
  simp [World.cell?, this] at h

theorem Len.below {w w' : World} (h : Len w) (hb : Below w.heap.size w w') : Len w' := by
  have hlt := lt_of_cell h.c0
  obtain ⟨c0, c1, c2, c3, c4, c5, c6, c7, c8, c9, c10, c11, c12⟩ := h
  constructor <;> (rw [hb.cell (by exact hlt)]; assumption)

theorem right_yes (n : Int) (w : World) (h0 : 0 ≤ n) (h1 : n < 2147483648) :
    Calls Tryd.prog 25 #[.int .i64 n] w fun e w' => e = .returned (.bool true) ∧ w = w' := by
  go_enter Tryd.func25, Tryd.ntmps25
  go_wp2
  go_ret
  exact ⟨rfl, rfl⟩
theorem right_no (n : Int) (w : World) (h : ¬ (0 ≤ n ∧ n < 2147483648)) :
    Calls Tryd.prog 25 #[.int .i64 n] w fun e w' => e = .returned (.bool false) ∧ w = w' := by
  by_cases h0 : 0 ≤ n
  · have h1 : ¬ n < 2147483648 := by omega
    clear h
    go_enter Tryd.func25, Tryd.ntmps25
    go_wp2
    go_ret
    exact ⟨rfl, rfl⟩
  · clear h
    go_enter Tryd.func25, Tryd.ntmps25
    go_wp2
    go_ret
    exact ⟨rfl, rfl⟩

set_option maxHeartbeats 400000 in
theorem of_yes (n : Int) (w : World) (h0 : 0 ≤ n) (h1 : n < 2147483648) (hL : Len w) :
    Calls Tryd.prog 10 #[.int .i64 n] w fun e w' => e = .returned (.tuple #[.agg #[.int .i64 (Y (n / 1440)), .int .i64 (M (n / 1440)), .int .i64 (D (n / 1440)), .int .i64 (n % 1440 / 60), .int .i64 (n % 60), .int .i64 ((n / 1440 + 6) % 7)], .int .i64 0]) ∧ Below w.heap.size w w' := by
  have HL := Lib.hid hL
  clear hL
  go_enter Tryd.func10, Tryd.ntmps10
  go_wp2_with (first | (go_at_call 25; refine (right_yes _ _ h0 h1).mono ?_; rintro e w' ⟨rfl, rfl⟩) | (go_at_call 26; refine (split_any _ _ (by omega) (by omega) (HL.out.below (by go_grown))).mono ?_; rintro e w' ⟨rfl, rfl⟩))
  go_returns
  exact ⟨rfl, by go_grown⟩
set_option maxHeartbeats 400000 in
theorem of_no (n : Int) (w : World) (h : ¬ (0 ≤ n ∧ n < 2147483648)) :
    Calls Tryd.prog 10 #[.int .i64 n] w fun e w' => e = .returned (.tuple #[.agg #[.int .i64 0, .int .i64 0, .int .i64 0, .int .i64 0, .int .i64 0, .int .i64 0], .int .i64 30]) ∧ Below w.heap.size w w' := by
  have H := Lib.hid h
  clear h
  go_enter Tryd.func10, Tryd.ntmps10
  go_wp2_with (go_at_call 25; refine (right_no _ _ H.out).mono ?_; rintro e w' ⟨rfl, rfl⟩)
  go_returns
  exact ⟨rfl, by go_grown⟩
end Go.Proofs.YtmjcdnlcdkeoaaaDoor.Cal
