/- From the listed variables to what the walks of the texts lean on. -/
import Derived.Test.YtmjcdnlcdkeoaaaDoorCalEnv
import Derived.Test.YtmjcdnlcdkeoaaaDoorErrsEnv
set_option linter.unusedVariables false
namespace Go.Proofs.YtmjcdnlcdkeoaaaDoor.Cal
open Go.RowKit Go Ba

theorem Env.of6 {W : World} (h : laidMetH Tryd.prog Rows.calendarTextsRow.laid W) : Env W ∧ Errs W := by
  rw [MakeChecks.laidMetH_plain _ _ _ (by kernel_rfl)] at h
  have h3 := h.tail.tail
  have h4 := h3.tail
  refine ⟨⟨len_of ?_, ?_⟩, Errs.of h4⟩
  · exact Lib.tabIs_of_head (rest := []) (t := 45) (e := 3) (n := 13) gLen (by kernel_rfl) Tryd.underlying45 Tryd.underlying3 (by kernel_rfl) (by kernel_rfl) h4.tail.tail
  · exact Lib.tabIs_of_head (t := 83) (e := 64) (n := 20) (k := .u64) (zs := Lib.pow10Tab) (g := 3) (by kernel_rfl) (by kernel_rfl) Tryd.underlying83 Tryd.underlying64 (by kernel_rfl) (by kernel_rfl) h3
end Go.Proofs.YtmjcdnlcdkeoaaaDoor.Cal
