/- From the listed variables to what the walks lean on. -/
import Derived.Test.YtedpgeilamhipaaDoorValWalk6
import Derived.Test.YtedpgeilamhipaaDoorFrame
import Derived.OpenShut
set_option linter.unusedVariables false
namespace Go.Proofs.YtedpgeilamhipaaDoor.Va
open Go.RowKit Go

theorem Env.of3 {W : World} (h : laidMetH Tryd.prog Rows.valueSumsRow.laid W) : Env W := by
  rw [MakeChecks.laidMetH_plain _ _ _ (by kernel_rfl)] at h
  exact Lib.tabIs_of_head (rest := []) (t := 87) (e := 52) (n := 20) (k := .u64) (zs := Lib.pow10Tab) (g := 3) (by kernel_rfl) (by kernel_rfl) Tryd.underlying87 Tryd.underlying52 (by kernel_rfl) (by kernel_rfl) h.tail.tail
end Go.Proofs.YtedpgeilamhipaaDoor.Va
