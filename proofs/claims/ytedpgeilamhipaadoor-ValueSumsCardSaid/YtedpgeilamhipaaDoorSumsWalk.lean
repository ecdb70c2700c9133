/- The walk of the law on sums and differences. -/
import Derived.Test.YtedpgeilamhipaaDoorSumsWalkA
import Derived.Test.YtedpgeilamhipaaDoorSumsWalkB
import Derived.Test.YtedpgeilamhipaaDoorSumsWalkC
set_option linter.unusedVariables false
set_option linter.unusedSimpArgs false
namespace Go.Proofs.YtedpgeilamhipaaDoor.Va
open Go.RowKit Go Ba

theorem sums_law (a b : Int) (w : World) (a0 : -9223372036854775808 ≤ a) (a1 : a ≤ 9223372036854775807) (b0 : -9223372036854775808 ≤ b) (b1 : b ≤ 9223372036854775807) (hE : Env w) :
    Calls Tryd.prog 4 #[.int .i64 a, .int .i64 b] w fun e w' => e = .returned (.bool true) ∧ Below w.heap.size w w' := by
  by_cases p : 0 < b
  · by_cases o : 9223372036854775807 < a + b
    · exact sums_po a b w a0 a1 b0 b1 p o (by omega) hE
    by_cases u : a - b < -9223372036854775808
    · exact sums_pu a b w a0 a1 b0 b1 p (by omega) u hE
    · exact sums_p a b w a0 a1 b0 b1 p (by omega) (by omega) hE
  by_cases n : b < 0
  · by_cases o : a + b < -9223372036854775808
    · exact sums_no a b w a0 a1 b0 b1 n o (by omega) hE
    by_cases u : 9223372036854775807 < a - b
    · exact sums_nu a b w a0 a1 b0 b1 n (by omega) u hE
    · exact sums_n a b w a0 a1 b0 b1 n (by omega) (by omega) hE
  · exact sums_z a b w a0 a1 b0 b1 (by omega) (by omega) hE
end Go.Proofs.YtedpgeilamhipaaDoor.Va
