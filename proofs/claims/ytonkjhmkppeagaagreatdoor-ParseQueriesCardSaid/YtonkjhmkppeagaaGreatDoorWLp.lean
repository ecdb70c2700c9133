/- Walks of layer 14's laws: sources. -/
import Derived.Test.YtonkjhmkppeagaaGreatDoorWLs
import Derived.Deep.DeepCutAuto
set_option linter.unusedVariables false
set_option linter.unusedSimpArgs false
namespace Go.Proofs.YtonkjhmkppeagaaGreatDoor.Pz
open Go.Proofs.Tryz
open Go.RowKit Go Go.Sort Ba Lx
theorem _root_.Go.Proofs.YtonkjhmkppeagaaGreatDoor.Ba.wpAnyM_imp {P:Program} {md:Region.Mode} {ops:Array Oper} {Q:Exit→Act→World→Prop} {S S2:World→Prop} {m:Nat} (h:∀ w,S2 w→S w):∀ (fuel:Nat) (listed:Array Bool) (a:Act) (w:World),zbf P md ops Q S2 m fuel listed a w→zbf P md ops Q S m fuel listed a w
 | 0,_,_,_,x=>x
 | fuel+1,_,_,_,⟨x1,x2⟩=>⟨x1,fun i hi=>wpOp_mono (fun a' w' ⟨hs,hw⟩=>⟨fun e=>h _ (hs e),Ba.wpAnyM_imp h fuel _ a' w' hw⟩) (x2 i hi)⟩
theorem St.cellS {S:Nat→Prop} {w0 w:World} {L:List Bx} {D:List (List Dat×List Value)} {O:List Ow} (h:St S w0 w L D O) {i C:Nat} {us:List Value} (hi:L[i]?=some (C,us)) {off:Nat} {v:Value} (hv:us[off]?=some v):w.cell? ⟨C,off,none⟩=some v:=(h.at hi).cl off v hv
