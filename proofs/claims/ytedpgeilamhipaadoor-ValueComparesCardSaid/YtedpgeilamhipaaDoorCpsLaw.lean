/- The law on the ways of comparing. -/
import Derived.Test.YtedpgeilamhipaaDoorCpsWalk2
import Derived.Test.YtedpgeilamhipaaDoorCpsWalk3t
import Derived.Test.YtedpgeilamhipaaDoorCpsWalk3f
import Derived.Test.YtedpgeilamhipaaDoorQuiet
import Derived.BigQuiet
set_option linter.unusedVariables false
set_option linter.unusedSimpArgs false
namespace Go.Proofs.YtedpgeilamhipaaDoor.Va
open Go.RowKit Go Go.Sort Ba

theorem compares_law (op ka na : Int) (sa : ByteArray) (kb nb : Int) (sb : ByteArray) (w : World) (ha : sa.size ≤ 9223372036854775807) (hb : sb.size ≤ 9223372036854775807) (hE : Env w) :
    Calls Tryd.prog 9 #[.int .i64 op, .agg #[.int .i64 ka, .int .i64 na, .string sa], .agg #[.int .i64 kb, .int .i64 nb, .string sb]] w fun e w' => e = .returned (.bool true) ∧ Below w.heap.size w w' := by
  cases ra : rightB ka na sa
  · exact cps_a op ka na sa kb nb sb w ha hb hE ra
  cases rb : rightB kb nb sb
  · exact cps_b op ka na sa kb nb sb w ha hb hE ra rb
  by_cases h1 : ka = 0
  · exact cps_n1 op ka na sa kb nb sb w ha hb hE h1 ra rb
  by_cases h2 : kb = 0
  · exact cps_n2 op ka na sa kb nb sb w ha hb hE h1 h2 ra rb
  by_cases h3 : op < 1
  · exact cps_n3 op ka na sa kb nb sb w ha hb hE h1 h2 h3 ra rb
  by_cases h4 : 6 < op
  · exact cps_n4 op ka na sa kb nb sb w ha hb hE h1 h2 h3 h4 ra rb
  obtain ⟨f1, f2, f3, f4⟩ := cv_facts ka na sa kb nb sb
  have hw : IsWay op := by unfold IsWay; omega
  cases hr : holdsB op (cmpV ka na sa kb nb sb)
  · exact cps_false op ka na sa kb nb sb w ha hb hE hw h1 h2 _ rfl f2 f3 hr ra rb
  · exact cps_true op ka na sa kb nb sb w ha hb hE hw h1 h2 _ rfl f2 f3 hr ra rb
end Go.Proofs.YtedpgeilamhipaaDoor.Va
