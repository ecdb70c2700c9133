/- Operations of a region that keeps its order, one by one: the ones that look at no memory. No function of the program in sight. -/
import Derived.Test.YtonkjhmkppeagaaGreatDoorVBase
set_option linter.unusedVariables false
namespace Go.Proofs.YtonkjhmkppeagaaGreatDoor.Ba
open Go.Proofs.Tryz
open Go.RowKit Go
section
variable {P:Program} {ops:Array Oper} {rest:List Oper} {o:Oper} {a:Act} {w:World} {Q:Exit→Act→World→Prop}
structure Nx (p:Prop):Prop where
 out:p
end
end Go.Proofs.YtonkjhmkppeagaaGreatDoor.Ba
