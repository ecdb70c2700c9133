/- Walks of layer 14's laws: texts joined; is a text read as one definition. -/
import Derived.Test.YtonkjhmkppeagaaGreatDoorVDe
import Derived.Test.YtonkjhmkppeagaaGreatDoorVDg
set_option maxRecDepth 100000
set_option maxHeartbeats 3200000
set_option linter.unusedVariables false
set_option linter.unusedSimpArgs false
namespace Go.Proofs.YtonkjhmkppeagaaGreatDoor.Pz
open Go.Proofs.Tryz
open Go.Lib (hid)
open Go.RowKit Go Go.Sort Ba Lx
theorem zbG {P:Program} {o:Oper} {a:Act} {w:World} {ty:TypeId} {x:Operand} (ho:o.op=.load ty x) {C off:Nat} (hx:a.eval x=.pointer (some ⟨C,off,none⟩)) {cs:List Value} (hu:(P.underlying ty).map (·.isRow)=some true) (hs:(P.info? ty).map (·.size)=some cs.length)
 (hc:∀ (j:Nat) (v:Value),cs[j]?=some v→w.cell? ⟨C,off+j,none⟩=some v):(execOp a.eval o).run P w=.ok (.value (.agg cs.toArray)) w:=by
 cases hq:P.underlying ty with
 | none=>rw[hq]at hu;cases hu
 | some d =>
  rw[hq]at hu;unfold execOp;simp only[ho,hx,Instr.loadAt,Instr.sureAddr,Sem.run_bind,Sem.run_pure,Result.andThen_ok,run_loadVar_mid w C off ty cs d (fun j v hv=>hc j v hv) hq (Option.some.inj hu) hs]
theorem zor {W:World} {ok:Nat→Prop} {x:Df} {cs:List Value} (h:Row W ok (dfD x) cs):cs.length=25:=by rw[← h.1,zj5]
