/- From the listed variables to what the walks of mappings lean on. -/
import Derived.Test.YtkapkfddbdgmoaaDoorSchEnv
import Derived.Test.YtkapkfddbdgmoaaDoorWinWalk3
set_option linter.unusedVariables false
namespace Go.Proofs.YtkapkfddbdgmoaaDoor.Wi
open Go.RowKit Go Ba Sc
open Cal hiding ret_int ret_bool lt_of_cell

theorem EnvW.of {W : World} (h : laidMetH Tryd.prog Rows.windowChecksRow.laid W) : EnvW W := by
  rw [MakeChecks.laidMetH_plain _ _ _ (by kernel_rfl)] at h
  refine ⟨?_, ?_, ?_⟩
  · exact Lib.tabIs_of_head (t := 107) (e := 93) (n := 20) (k := .u64) (zs := Lib.pow10Tab) (g := 6) (by kernel_rfl) (by kernel_rfl) Tryd.underlying107 Tryd.underlying93 (by kernel_rfl) (by kernel_rfl) h.tail.tail
  · exact len_of (Lib.tabIs_of_head (t := 105) (e := 3) (n := 13) gLen (by kernel_rfl) Tryd.underlying105 Tryd.underlying3 (by kernel_rfl) (by kernel_rfl) h.tail.tail.tail)
  · exact fun j hj => strs_of_head (zs := wwords) (t := 65) (e := 9) (n := 6) (g := 1) (rest := []) (by kernel_rfl) (by kernel_rfl) Tryd.underlying65 Tryd.underlying9 (by kernel_rfl) (by kernel_rfl) h.tail.tail.tail.tail j hj
theorem EnvP.of {W : World} (h : laidMetH Tryd.prog Rows.windowShowsRow.laid W) (hs : W.ShapedOpen Tryd.prog) : EnvP W := by
  rw [MakeChecks.laidMetH_plain _ _ _ (by kernel_rfl)] at h
  refine ⟨⟨?_, ?_, ?_⟩, ?_, ?_⟩
  · exact Lib.tabIs_of_head (t := 107) (e := 93) (n := 20) (k := .u64) (zs := Lib.pow10Tab) (g := 6) (by kernel_rfl) (by kernel_rfl) Tryd.underlying107 Tryd.underlying93 (by kernel_rfl) (by kernel_rfl) h.tail.tail
  · exact len_of (Lib.tabIs_of_head (t := 105) (e := 3) (n := 13) gLen (by kernel_rfl) Tryd.underlying105 Tryd.underlying3 (by kernel_rfl) (by kernel_rfl) h.tail.tail.tail.tail.tail)
  · exact fun j hj => strs_of_head (zs := wwords) (t := 65) (e := 9) (n := 6) (g := 1) (rest := []) (by kernel_rfl) (by kernel_rfl) Tryd.underlying65 Tryd.underlying9 (by kernel_rfl) (by kernel_rfl) h.tail.tail.tail.tail.tail.tail j hj
  · exact Errs.of h.tail.tail.tail
  · exact Go.Proofs.cell_of_shapedOpen_int (zero := #[.int .i64 0]) (t := 3) hs (of_decide_eq_true (by kernel_rfl)) (by kernel_rfl) rfl (by kernel_rfl) (by kernel_rfl) Tryd.underlying3
end Go.Proofs.YtkapkfddbdgmoaaDoor.Wi
