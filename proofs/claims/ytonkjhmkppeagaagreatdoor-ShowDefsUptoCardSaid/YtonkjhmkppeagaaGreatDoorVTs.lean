/- Rows of cells, loaded out of a call's own variables. No function of the program in sight. -/
import Derived.Test.YtonkjhmkppeagaaGreatDoorVLp
import Derived.Test.YtonkjhmkppeagaaGreatDoorVTk
set_option linter.unusedVariables false
namespace Go.Proofs.YtonkjhmkppeagaaGreatDoor.Pz
open Go.Proofs.Tryz
open Go.RowKit Go Ba Lx
theorem St.sub {S:Nat→Prop} {w0 w:World} {L:List Bx} {D:List (List Dat×List Value)} {O:List Ow} (h:St S w0 w L D O) {i C:Nat} {us:List Value} (hi:L[i]?=some (C,us)) (p:Nat) {vs:List Value} (hv:(us.drop p).take vs.length=vs):∀ (j:Nat) (v:Value),vs[j]?=some v→w.cell? ⟨C,p+j,none⟩=some v:=fun j v hj=>(h.at hi).cl _ _ (zil hv hj)
