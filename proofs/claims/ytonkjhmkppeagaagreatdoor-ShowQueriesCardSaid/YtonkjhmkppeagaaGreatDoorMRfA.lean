/- Walks: an expression as the document has it. Walks: a number in digits; the text of a value, in the document's word. Walks: how tight, in the document's word; a text in its place. -/
import Derived.Test.YtonkjhmkppeagaaGreatDoorMEx
import Derived.Test.YtonkjhmkppeagaaGreatDoorMPsC
import Derived.RegionTactic
import Derived.BigRegion
import Derived.Test.YtonkjhmkppeagaaGreatDoorMVal
import Derived.Test.YtonkjhmkppeagaaGreatDoorMTxB
set_option linter.unusedVariables false
set_option linter.unusedSimpArgs false
namespace Go.Proofs.YtonkjhmkppeagaaGreatDoor.Pz
open Go.RowKit Go Go.Sort Ba Lx
mutual
def rfD:Ex → List Dat
 | .mk k nm v op xs => [dI k,dS nm,dS op,dI v.k,dI v.n,dS v.t,.sl 7 (rfDs xs)]
def rfDs:List Ex → List (List Dat)
 | [] => []
 | x :: r => rfD x :: rfDs r
end
theorem rfDs_map:∀ xs:List Ex,rfDs xs = xs.map rfD
 | [] => by rw [rfDs];rfl
 | x :: r => by rw [rfDs,rfDs_map r];rfl
abbrev RArgs (W:World) (ok:Nat → Prop) (sl:Value) (xs:List Ex):Prop:=Rep W ok (.sl 7 (rfDs xs)) sl
theorem RArgs.len {ok:Nat → Prop} {W:World} {v:Value} {xs:List Ex} (h:RArgs W ok v xs):∃ ao cap,v = .slice ao xs.length cap ∧ xs.length ≤ cap ∧ cap ≤ maxLen:=by
 have:=Rep.len h
 rw [rfDs_map,List.length_map] at this
 exact this
end Go.Proofs.YtonkjhmkppeagaaGreatDoor.Pz
namespace Go.Proofs.YtonkjhmkppeagaaGreatDoor.Va
open Go.RowKit Go Ba
end Go.Proofs.YtonkjhmkppeagaaGreatDoor.Va
namespace Go.Proofs.YtonkjhmkppeagaaGreatDoor.Pz
open Go.RowKit Go Go.Sort Ba Lx
end Go.Proofs.YtonkjhmkppeagaaGreatDoor.Pz
