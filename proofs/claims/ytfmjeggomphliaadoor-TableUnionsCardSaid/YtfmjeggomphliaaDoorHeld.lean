/- A region that draws its order: the condition on the world may be made stronger on the way. -/
import Derived.Test.YtfmjeggomphliaaDoorBox
import Derived.Deep.RegionHeld3
set_option linter.unusedVariables false
namespace Go.Proofs.YtfmjeggomphliaaDoor.Ba
open Go.RowKit Go

theorem wpAnyH_imp {P : Program} {md : Region.Mode} {ops : Array Oper} {Q : Exit → Act → World → Prop} {S S2 : World → Prop} (h : ∀ w, S2 w → S w) : ∀ (fuel : Nat) (listed : Array Bool) (a : Act) (w : World), wpAnyH P md ops Q S2 fuel listed a w → wpAnyH P md ops Q S fuel listed a w
  | 0, _, _, _, x => x
  | fuel + 1, _, _, _, ⟨x1, x2⟩ => ⟨x1, fun i hi => wpOp_mono (fun a' w' ⟨hs, hw⟩ => ⟨h _ hs, wpAnyH_imp h fuel _ a' w' hw⟩) (x2 i hi)⟩
end Go.Proofs.YtfmjeggomphliaaDoor.Ba
