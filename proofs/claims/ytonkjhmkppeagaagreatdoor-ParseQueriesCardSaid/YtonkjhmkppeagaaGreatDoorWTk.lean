/- Operations of a region that keeps its order, one by one: the ones that look at no memory. No function of the program in sight. -/
import Derived.Test.YtonkjhmkppeagaaGreatDoorWBase
set_option linter.unusedVariables false
namespace Go.Proofs.YtonkjhmkppeagaaGreatDoor.Ba
open Go.Proofs.Tryz
open Go.RowKit Go
section
variable {P:Program} {ops:Array Oper} {rest:List Oper} {o:Oper} {a:Act} {w:World} {Q:Exit→Act→World→Prop}
theorem zmm (hg:Region.wanted o (yielded ops a.tmps)=false) (h:wpList P ops Q rest (a.put o.dst undef) w):wpList P ops Q (o::rest) a w :=
 wpList_step fun K hK=>by rw[if_neg (by rw[hg];exact Bool.false_ne_true)];exact hK _ _ h
theorem zgH {v:Value} (hg:Region.wanted o (yielded ops a.tmps)=true) (hr:(execOp a.eval o).run P w=.ok (.value v) w) (h:wpList P ops Q rest (a.put o.dst v) w):wpList P ops Q (o::rest) a w :=
 wpList_step fun K hK=>by
  rw[if_pos hg];unfold Oper.wp;rw[hr];exact hK _ _ h
structure Nx (p:Prop):Prop where
 out:p
end
