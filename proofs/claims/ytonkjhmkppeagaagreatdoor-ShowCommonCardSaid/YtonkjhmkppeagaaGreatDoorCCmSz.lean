/- How long two texts may be that are arguments. -/
import Derived.Test.YtonkjhmkppeagaaGreatDoorUFrame
set_option linter.unusedVariables false
set_option linter.unusedSimpArgs false
namespace Go.Proofs.YtonkjhmkppeagaaGreatDoor.Pz
open Go.Proofs.Tryz
open Go.RowKit Go
theorem two_sizes {H:Type} {P:Program} {t0 t1 t2:TypeId} {ts:List TypeId} {k:IntKind} {n:Int} {a b:ByteArray} {gs:List (DataW H)}
 (h:(DataW.weightsEach P (t0::t1::t2::ts) (.lit (.int k n)::.lit (.string a.data.toList)::.lit (.string b.data.toList)::gs)).all (·≤reachBytes)=true):a.size≤140737488355328∧b.size≤140737488355328:=by
 simp only[DataW.weightsEach,DataW.weights,List.nil_append,List.cons_append,List.all_cons,Bool.and_eq_true,decide_eq_true_eq,reachBytes,Array.length_toList]at h;obtain ⟨h1,h2,_⟩:=h;have g1:a.data.size≤140737488351232:=by first|exact h1|exact of_decide_eq_true h1
 have g2:b.data.size≤140737488351232:=by first|exact h2|exact of_decide_eq_true h2
 exact ⟨by show a.data.size≤_;omega,by show b.data.size≤_;omega⟩
end Go.Proofs.YtonkjhmkppeagaaGreatDoor.Pz
