/- A region that draws its order and holds calls that make memory: walked once, in the order of the text. Small laws on the worlds of such a region. -/
import Derived.Test.YtfmjeggomphliaaDoorBase
import Derived.Lib.QuietBelow
set_option linter.unusedVariables false
namespace Go.Proofs.YtfmjeggomphliaaDoor.Ba
open Go.RowKit Go Go.Sort

/-- A contract, met in a world of the class. -/
theorem qcall {P : Program} {f : FuncId} {args : Array Value} {w : World} {v : Value} (h : ∀ W, Below w.heap.size w W → Calls P f args W fun e w' => e = .returned v ∧ Below W.heap.size W w') :
    ∀ d os, Calls P f args (grow (redrawn w d) os) fun e w'' => e = .returned v ∧ ∃ p : Regrown, w'' = grow (redrawn w p.d) p.os :=
  fun d os => Calls.regrown_of (h _ (below_regrown w d os))
/-- A contract of a call that leaves the world as it was. -/
theorem qsame {P : Program} {f : FuncId} {args : Array Value} {w : World} {v : Value} (h : ∀ W, Calls P f args W fun e w' => e = .returned v ∧ w' = W) :
    ∀ d os, Calls P f args (grow (redrawn w d) os) fun e w'' => e = .returned v ∧ ∃ p : Regrown, w'' = grow (redrawn w p.d) p.os :=
  fun d os => (h _).mono fun _ _ ⟨he, hw⟩ => ⟨he, ⟨⟨d, os⟩, hw⟩⟩
end Go.Proofs.YtfmjeggomphliaaDoor.Ba
