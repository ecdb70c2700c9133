/- Walks: a number in digits; the text of a value, in the document's word. Walks: an expression as the document has it. Walks: how tight, in the document's word; a text in its place. -/
import Derived.Test.YtonkjhmkppeagaaGreatDoorVTxB
set_option linter.unusedVariables false
set_option linter.unusedSimpArgs false
namespace Go.Proofs.YtonkjhmkppeagaaGreatDoor.Va
open Go.Proofs.Tryz
open Go.Lib (hid)
open Go.RowKit Go Ba
end Go.Proofs.YtonkjhmkppeagaaGreatDoor.Va
namespace Go.Proofs.YtonkjhmkppeagaaGreatDoor.Pz
open Go.Proofs.Tryz
open Go.Lib (hid)
open Go.RowKit Go Go.Sort Ba Lx
mutual
def rfD:Ex→List Dat
 | .mk k nm v op xs=>[dI k,dS nm,dS op,dI v.k,dI v.n,dS v.t,.sl 7 (rfDs xs)]
def rfDs:List Ex→List (List Dat)
 | []=>[]
 | x::r=>rfD x::rfDs r
end
abbrev RArgs (W:World) (ok:Nat→Prop) (sl:Value) (xs:List Ex):Prop:=Rep W ok (.sl 7 (rfDs xs)) sl
inductive Sm:Ex→Prop
 | mk (x:Ex) (h:x.xs.length≤600000) (hx:∀ a∈x.xs,Sm a):Sm x
