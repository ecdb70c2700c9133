/- What every law's frame uses: arguments read behind the call as before it; the listed variables; the witness's world. -/
import Derived.Test.YtonkjhmkppeagaaGreatDoorCards
import Derived.Test.YtonkjhmkppeagaaGreatDoorTie
import Derived.WalkKit
import Derived.ProofKit
import Derived.OpenShut
import Derived.Deep.DeepHandedRow
import Derived.Deep.DeepWitnessRowRef
import Derived.Lib.LaidTab
import Derived.Lib.SmallJoins
import Derived.Stop.LaidErr
import Derived.LaidMore
import Derived.SizedLaws
import Derived.Deep.Fields
set_option linter.unusedVariables false
namespace Go.Proofs.YtonkjhmkppeagaaGreatDoor.Fr
open Go.Proofs.Tryz
open Go.ChangeShapes Go.WideShapes Go.ChangeAt Go.RowKit Go.Deep Go
theorem own:ownKnob Tryz.prog.godebug=none:=by kernel_rfl
theorem zr3:laidOutB Tryz.prog=true:=by kernel_rfl
section
variable {H:Type} {enc:TypeId×Value→H}
theorem zeC {P:Program} (hl:laidOutB P=true) {W W':World} (hb:Below W.heap.size W W'):∀ (ts:List TypeId) (vs:List Value) (ds:List (DataW H)) (ps:List MemPlace),
 (∀ t∈ts,P.readableRec t=true∧t<P.types.size)→DataW.TrodAll enc P W 0 (fun _=>true) true ts vs ds ps→(∀ x∈ps,x.block<W.heap.size)→
 DataW.TrodAll enc P W' 0 (fun b=>decide (b<W.heap.size)) true ts vs ds ps
 | [],vs,ds,ps,_,h,_=>by
  cases vs<;>cases ds<;>simp_all [DataW.TrodAll]
 | t::ts,vs,ds,ps,hr,h,hlt=>by
  obtain ⟨v,vs',d,ds',p,q,rfl,rfl,rfl,hv,hvs⟩:=trodAll_cons h;exact trodAll_cons_mk (Below.trod hl (hr t (by simp)).1 (hr t (by simp)).2 hv hb (fun x hx=>hlt x (by simp[hx])))
   (zeC hl hb ts vs' ds' q (fun t' ht=>hr t' (by simp[ht])) hvs (fun x hx=>hlt x (by simp[hx])))
theorem post_true {fn:Func} {s:ChangeSpec} {W W':World} {args:Array Value} {ds gs:List (DataW H)} {before:List MemPlace} {tb:TypeId}
 (hr:∀ t∈fn.params.toList,Tryz.prog.readableRec t=true∧t < Tryz.prog.types.size) (hrt:fn.resultTypes=#[tb]) (htb:Tryz.prog.underlying tb=some .bool) (hv:s.vars=[])
 (hW:DataW.Whole enc Tryz.prog fn.params.toList s.vars false W args.toList ds gs before)
 (hs:∀ gs:List (DataW H),gs=[]→(s.fn H (ds++gs)).results=[.lit (.bool true)]∧(s.fn H (ds++gs)).args=ds∧(s.fn H (ds++gs)).vars=[])
 (hb:Below W.heap.size W W'):s.post enc Tryz.prog fn false true false false W args (.bool true) W':=by
 have hW':=hW;obtain ⟨p,q,hA,hV,rfl,hfz,hnd⟩:=hW;rw[hv]at hV;obtain ⟨rfl,rfl⟩:=trodVars_none hV;obtain ⟨h1,h2,h3⟩:=hs [] rfl;have hlt:∀ x∈p,x.block<W.heap.size:=fun x hx=>by simpa using hW'.lt x (by simpa using hx)
 refine ⟨_,_,_,[],p,[],hW',?_,?_,?_,hb.frame _,fun h=>by cases h⟩
 ·rw[h1,hrt];exact trodAll_mk1 (shut_bool htb _)
 ·rw[h2];exact zeC zr3 hb _ _ _ _ hr hA hlt
 ·rw[h3,hv];rfl
end
