/- Operations of a region that keeps its order, one by one, the goal hidden: any operation by its own law, a plain one by reckoning. No function of the program in sight. -/
import Derived.Test.YtonkjhmkppeagaaGreatDoorWTk
import Derived.Test.YtonkjhmkppeagaaGreatDoorWSt
set_option linter.unusedVariables false
namespace Go.Proofs.YtonkjhmkppeagaaGreatDoor.Ba
open Go.Proofs.Tryz
open Go.RowKit Go
section
variable {P:Program} {ops:Array Oper} {rest:List Oper} {o:Oper} {a a':Act} {w:World} {Q:Exit→Act→World→Prop}
theorem h_op (h:∀ K:Act→World→Prop,Shut (∀ a w,Nx (wpList P ops Q rest a w)→K a w)→o.wp P a w K Q) (hg:Region.wanted o (yielded ops a.tmps)=true:=by rfl):Nx (wpList P ops Q (o::rest) a w) :=
 ⟨wpList_step fun K hK=>by rw[if_pos hg];exact h K fun a w h=>hK a w h.out⟩
theorem h_v {v:Value} (h:Nx (wpList P ops Q rest a' w)) (hg:Region.wanted o (yielded ops a.tmps)=true:=by rfl) (hr:(execOp a.eval o).run P w=.ok (.value v) w:=by go_simp<;>with_reducible rfl)
 (ha:a.put o.dst v=a':=by first|(simp only[Array.reduceGetElem,zs];exact rfl)|exact rfl):Nx (wpList P ops Q (o::rest) a w):=⟨zgH hg hr (by rw[ha];exact h.out)⟩
theorem h_s (h:Nx (wpList P ops Q rest a' w)) (hg:Region.wanted o (yielded ops a.tmps)=false:=by rfl)
 (ha:a.put o.dst undef=a':=by first|(simp only[Array.reduceGetElem,zs];exact rfl)|exact rfl):Nx (wpList P ops Q (o::rest) a w):=⟨zmm hg (by rw[ha];exact h.out)⟩
theorem h_end (h:Q .normal a w):Nx (wpList P ops Q [] a w):=⟨h⟩
theorem h_add {t t':TypeId} {x y:Operand} {X Y:ByteArray} (h:Nx (wpList P ops Q rest a' w)) (ho:o.op=.binOp .add t x y t':=by exact rfl) (hx:a.eval x=.string X:=by exact rfl) (hy:a.eval y=.string Y:=by exact rfl)
 (hs:X.size+Y.size≤9223372036854775807:=by first|omega|(go_simp<;>omega)) (hg:Region.wanted o (yielded ops a.tmps)=true:=by rfl)
 (ha:a.put o.dst (.string (X++Y))=a':=by first|(simp only[Array.reduceGetElem,zs];exact rfl)|exact rfl):Nx (wpList P ops Q (o::rest) a w) :=
 ⟨zgH (v:=.string (X++Y)) hg (by
  have h9:¬ (9223372036854775807<X.size+Y.size):=by omega
  unfold execOp;rw[ho];simp only[hx,hy];simp[go_sem,h9]) (by rw[ha];exact h.out)⟩
end
end Go.Proofs.YtonkjhmkppeagaaGreatDoor.Ba
namespace Go.Proofs.YtonkjhmkppeagaaGreatDoor.Pz
open Go.Proofs.Tryz
open Go.RowKit Go Ba
theorem St.o_box {P:Program} {o:Oper} {a:Act} {w:World} {Q:Exit→Act→World→Prop} {S:Nat→Prop} {w0:World} {L:List Bx} {D:List (List Dat×List Value)} {O:List Ow} (H:St S w0 w L D O) {K:Act→World→Prop} {ty:TypeId} {x:Operand} (ho:o.op=.box ty x) {z:Value} (hx:a.eval x=z) {vs:List Value} (hv:z.cells.toList=vs)
 (h:∀ (w':World) (C:Nat),Below w.heap.size w w'→St S w0 w' ((C,vs)::L) D O→K (a.put o.dst (.pointer (some ⟨C,0,none⟩))) w'):o.wp P a w K Q:=by
 subst hv;unfold Oper.wp execOp;simp only[ho,hx,Instr.box,Sem.run_bind,Sem.run_pure,Result.andThen_ok,newVar,newRow,run_newObj];exact h _ _ ((Below.refl _ w).alloc (yG _) _) (by simpa using H.alloc z.cells.toList ty)
theorem St.h_l1 {P:Program} {ops:Array Oper} {rest:List Oper} {o:Oper} {a a':Act} {w:World} {Q:Exit→Act→World→Prop} {S:Nat→Prop} {w0:World} {L:List Bx} {D:List (List Dat×List Value)} {O:List Ow} (H:St S w0 w L D O) (i:Nat) {ty:TypeId} {x:Operand} {C off:Nat} {cs:List Value} {v:Value}
 (h:Nx (wpList P ops Q rest a' w)) (hu:(P.underlying ty).map (·.isRow)=some false) (ho:o.op=.load ty x:=by exact rfl) (hx:a.eval x=.pointer (some ⟨C,off,none⟩):=by exact rfl) (hi:L[i]?=some (C,cs):=by exact rfl) (hv:cs[off]?=some v:=by exact rfl) (hg:Region.wanted o (yielded ops a.tmps)=true:=by rfl)
 (ha:a.put o.dst v=a':=by first|(simp only[Array.reduceGetElem,zs];exact rfl)|exact rfl):Nx (wpList P ops Q (o::rest) a w):=⟨H.w_load1 hg ho hx i hi hv hu (by rw[ha];exact h.out)⟩
