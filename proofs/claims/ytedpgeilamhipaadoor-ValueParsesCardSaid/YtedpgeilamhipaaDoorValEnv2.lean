/- From the listed variables to what the walks of the texts lean on. -/
import Derived.Test.YtedpgeilamhipaaDoorErrsEnv
import Derived.Test.YtedpgeilamhipaaDoorShowsLaw
set_option linter.unusedVariables false
namespace Go.Proofs.YtedpgeilamhipaaDoor.Va
open Go.RowKit Go Ba

theorem Env.of5 {W : World} (h : laidMetH Tryd.prog Rows.valueShowsRow.laid W) : Env W ∧ Errs W := by
  rw [MakeChecks.laidMetH_plain _ _ _ (by kernel_rfl)] at h
  exact ⟨Lib.tabIs_of_head (t := 87) (e := 52) (n := 20) (k := .u64) (zs := Lib.pow10Tab) (g := 3) (by kernel_rfl) (by kernel_rfl) Tryd.underlying87 Tryd.underlying52 (by kernel_rfl) (by kernel_rfl) h.tail.tail, Errs.of h.tail.tail.tail⟩
end Go.Proofs.YtedpgeilamhipaaDoor.Va
