/- Walks: the text of an expression, in the document's word. Walks: the text of an operation of two, in the document's word. Walks: the text of a call, in the document's word; of any expression. -/
import Derived.Test.YtonkjhmkppeagaaGreatDoorCRfA
set_option linter.unusedVariables false
set_option linter.unusedSimpArgs false
namespace Go.Proofs.YtonkjhmkppeagaaGreatDoor.Pz
open Go.Proofs.Tryz
open Go.RowKit Go Go.Sort Ba Lx
theorem RArgs.below {W W':World} {ok:Nat→Prop} {sl:Value} {xs:List Ex} (h:RArgs W ok sl xs) (hb:Below W.heap.size W W'):RArgs W' ok sl xs:=Rep.kept (S:=fun _=>False) (Kept.of_below hb) (fun _ _ _ h=>h) h
end Go.Proofs.YtonkjhmkppeagaaGreatDoor.Pz
namespace Go.Proofs.YtonkjhmkppeagaaGreatDoor.Pz
open Go.Proofs.Tryz
open Go.RowKit Go Go.Sort Ba Lx
end Go.Proofs.YtonkjhmkppeagaaGreatDoor.Pz
namespace Go.Proofs.YtonkjhmkppeagaaGreatDoor.Pz
open Go.Proofs.Tryz
open Go.RowKit Go Go.Sort Ba Lx
end Go.Proofs.YtonkjhmkppeagaaGreatDoor.Pz
