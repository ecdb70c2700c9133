/- Walks of layer 14's laws: sources. -/
import Derived.Test.YtonkjhmkppeagaaGreatDoorVL14
import Derived.Test.YtonkjhmkppeagaaGreatDoorVAw
import Derived.Test.YtonkjhmkppeagaaGreatDoorVNm
import Derived.Test.YtonkjhmkppeagaaGreatDoorVRfA
import Derived.Deep.DeepCutAuto
set_option linter.unusedVariables false
set_option linter.unusedSimpArgs false
namespace Go.Proofs.YtonkjhmkppeagaaGreatDoor.Pz
open Go.Proofs.Tryz
open Go.RowKit Go Go.Sort Ba Lx
theorem St.cellS {S:Nat→Prop} {w0 w:World} {L:List Bx} {D:List (List Dat×List Value)} {O:List Ow} (h:St S w0 w L D O) {i C:Nat} {us:List Value} (hi:L[i]?=some (C,us)) {off:Nat} {v:Value} (hv:us[off]?=some v):w.cell? ⟨C,off,none⟩=some v:=(h.at hi).cl off v hv
