/- Walks: the text of an operation of two. Walks: the text of a call; of any expression. Walks: the text of an expression, or that it has none. The plain law of expressions: what is read has a text that tells it again. -/
import Derived.Test.YtonkjhmkppeagaaGreatDoorWTxA
set_option maxRecDepth 100000
set_option maxHeartbeats 6400000
set_option linter.unusedVariables false
set_option linter.unusedSimpArgs false
namespace Go.Proofs.YtonkjhmkppeagaaGreatDoor.Pz
open Go.Proofs.Tryz
open Go.Lib (hid)
open Go.RowKit Go Go.Sort Ba Lx
def texts (xs:List Ex):List (List Dat):=xs.map fun a=>strD (textE a)
instance:DecidableEq Ex:=fun x y=>decidable_of_iff (eqE x y=true) (zet x y)
end Go.Proofs.YtonkjhmkppeagaaGreatDoor.Pz
namespace Go.Proofs.YtonkjhmkppeagaaGreatDoor.Pz
open Go.Proofs.Tryz
open Go.Lib (hid)
open Go Go.RowKit Lx
