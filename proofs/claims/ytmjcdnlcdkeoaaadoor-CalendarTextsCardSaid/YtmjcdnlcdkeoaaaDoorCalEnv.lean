/- From the listed variables to what the walks lean on. -/
import Derived.Test.YtmjcdnlcdkeoaaaDoorCalWalk7
import Derived.Test.YtmjcdnlcdkeoaaaDoorFrame
set_option linter.unusedVariables false
namespace Go.Proofs.YtmjcdnlcdkeoaaaDoor.Cal
open Go.RowKit Go

theorem gLen : Tryd.prog.globalNamed "bywash/calendar.lengths" = some 0 := by kernel_rfl
theorem len_of {W : World} (h : Lib.TabIs Tryd.prog W "bywash/calendar.lengths" .i64 [0, 31, 28, 31, 30, 31, 30, 31, 31, 30, 31, 30, 31]) : Len W :=
  ⟨h.cell gLen 0 (by decide), h.cell gLen 1 (by decide), h.cell gLen 2 (by decide), h.cell gLen 3 (by decide), h.cell gLen 4 (by decide), h.cell gLen 5 (by decide), h.cell gLen 6 (by decide), h.cell gLen 7 (by decide), h.cell gLen 8 (by decide), h.cell gLen 9 (by decide), h.cell gLen 10 (by decide), h.cell gLen 11 (by decide), h.cell gLen 12 (by decide)⟩
theorem Env.of4 {W : World} (h : laidMetH Tryd.prog Rows.calendarLeapsRow.laid W) : Env W := by
  rw [MakeChecks.laidMetH_plain _ _ _ (by kernel_rfl)] at h
  have h3 := h.tail.tail
  have h4 := h3.tail
  refine ⟨len_of ?_, ?_⟩
  · exact Lib.tabIs_of_head (rest := []) (t := 45) (e := 3) (n := 13) gLen (by kernel_rfl) Tryd.underlying45 Tryd.underlying3 (by kernel_rfl) (by kernel_rfl) h4
  · exact Lib.tabIs_of_head (t := 83) (e := 64) (n := 20) (k := .u64) (zs := Lib.pow10Tab) (g := 3) (by kernel_rfl) (by kernel_rfl) Tryd.underlying83 Tryd.underlying64 (by kernel_rfl) (by kernel_rfl) h3
end Go.Proofs.YtmjcdnlcdkeoaaaDoor.Cal
