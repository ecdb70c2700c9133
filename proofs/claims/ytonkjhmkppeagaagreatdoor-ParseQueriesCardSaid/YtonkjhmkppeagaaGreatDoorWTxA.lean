/- Walks: how tight an expression is; its text. Walks: the text of an expression in its place. Walks: the text of an expression. -/
import Derived.Test.YtonkjhmkppeagaaGreatDoorWEx
import Derived.Test.YtonkjhmkppeagaaGreatDoorWPsG
set_option maxRecDepth 100000
set_option maxHeartbeats 6400000
set_option linter.unusedVariables false
set_option linter.unusedSimpArgs false
namespace Go.Proofs.YtonkjhmkppeagaaGreatDoor.Pz
open Go.Proofs.Tryz
open Go.Lib (hid)
open Go.RowKit Go Go.Sort Ba Lx
def EnvR (w:World):Prop:=∃ bm o,bm<w.heap.size∧w.cell? ⟨0,0,none⟩=some (.map (some bm))∧w.heap[bm]?=some o∧
 ∀ (W:World) (key:ByteArray),W.heap[bm]?=some o→(Instr.lookup 173 (.map (some bm)) (.string key) false).run Tryz.prog W=.ok (.int .i64 (zaH key.data.toList:Int)) W
structure EnvX (w:World):Prop where
 l:EnvL w
 r:EnvR w
mutual
def BdE:Ex→Prop
 | .mk _ nm v op xs=>-9223372036854775808≤v.n∧v.n≤9223372036854775807∧v.t.length≤140737488355328∧nm.length≤140737488355328∧op.length≤140737488355328∧BdEs xs
def BdEs:List Ex→Prop
 | []=>True
 | x::r=>BdE x∧BdEs r
end
mutual
def cfE:Ex→Bool
 | .mk k _ _ _ xs=>decide (k≠5) && cfEs xs
def cfEs:List Ex→Bool
 | []=>true
 | x::r=>cfE x && cfEs r
end
def LimE (x:Ex):Nat:=if cfE x=true then 1125899906842624 else 1000000
def StrTo (l:Str) (w:World) (e:Ending) (w':World):Prop:=e=.returned (.string ⟨l.toArray⟩)∧Below w.heap.size w w'
def TxOk (x:Ex):Prop:=∀ (sa:Option Addr) (ca:Nat) (w:World) (ok:Nat→Prop),XArgs w ok (.slice sa x.xs.length ca) x.xs→EnvX w→BdE x→(textE x).length≤LimE x→
 Calls Tryz.prog 46 #[exV x (.slice sa x.xs.length ca)] w (StrTo (textE x) w)
theorem sz_mk (l:Str):(⟨l.toArray⟩:ByteArray).size=l.length:=by show l.toArray.size=_;simp
