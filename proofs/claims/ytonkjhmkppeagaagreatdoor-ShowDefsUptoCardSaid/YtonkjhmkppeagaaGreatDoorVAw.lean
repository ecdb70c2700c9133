/- Walks of layer 14's laws: the fixed answer. -/
import Derived.Test.YtonkjhmkppeagaaGreatDoorVQe
import Derived.Test.YtonkjhmkppeagaaGreatDoorVEq
set_option linter.unusedVariables false
set_option linter.unusedSimpArgs false
namespace Go.Proofs.YtonkjhmkppeagaaGreatDoor.Pz
open Go.Proofs.Tryz
open Go.Lib (hid)
open Go.RowKit Go Go.Sort Ba Lx
def awQ1:Pl:=.mk 2 [] [scanL [120]] (zaj [62] (zax [97]) (zam ⟨1,1,[]⟩)) [] [] [] [] [] 0
def awQ:Pl:=.mk 3 [] [awQ1] zEx [[98]] [zaj [42] (zax [97]) (zam ⟨1,2,[]⟩)] [] [] [] 0
def awS:Str:=[120,32,124,32,119,104,101,114,101,32,97,32,62,32,49,32,124,32,107,101,101,112,32,97,32,42,32,50,32,97,115,32,98]
def QTo4 (p:Pl) (n:Nat) (x:Int) (w:World) (e:Ending) (w':World):Prop :=
 ∃ cs,e=.returned (.tuple #[.agg cs.toArray,.int .i64 (n:Int),.int .i64 x])∧Row w' (fun b=>w.heap.size≤b) (plD p) cs∧Below w.heap.size w w'
