/- Arguments of whatever plain type, opened: their shape, what is known of them, their cells as rows of data. -/
import Derived.Test.YtonkjhmkppeagaaGreatDoorWFrame
import Derived.Test.YtonkjhmkppeagaaGreatDoorWPsA
import Derived.Deep.Slices
set_option linter.unusedVariables false
set_option linter.unusedSimpArgs false
namespace Go.Proofs.YtonkjhmkppeagaaGreatDoor.Pz
open Go.Proofs.Tryz
open Go.ChangeShapes Go.WideShapes Go.RowKit Go.Deep Go Ba Lx
inductive Sh where
 | i
 | s
 | b
 | sl (es:List Sh)
 | any
def shFs (P:Program) (g:TypeId→Option (List Sh)):List Field→Nat→Option (List Sh)
 | [],_=>some []
 | f::r,off=>if f.offset=off then (match g f.type with
  | some es=>if P.cellsOf f.type=es.length then (match shFs P g r (off+es.length) with
   | some q=>some (es++q)
   | none=>none) else none
  | none=>none) else none
def shOf (P:Program):Nat→TypeId→Option (List Sh)
 | 0,_=>none
 | n+1,t=>match P.underlying t with
  | some (.int .i64)=>some [.i]
  | some .string=>some [.s]
  | some .bool=>some [.b]
  | some (.slice e)=>some [match shOf P n e with
   | some es=>if P.cellsOf e=es.length∧0<es.length then .sl es else .any
   | none=>.any]
  | some (.struct fs)=>(match shFs P (shOf P n) fs.toList 0 with
   | some es=>if P.cellsOf t=es.length then some es else none
   | none=>none)
  | _=>none
inductive Fit:Sh→Dat→Prop
 | i (n:Int) (h:-9223372036854775808≤n∧n≤9223372036854775807):Fit .i (dI n)
 | s (t:Str) (h:t.length≤maxLen):Fit .s (dS t)
 | b (x:Bool):Fit .b (dB x)
 | sl (es:List Sh) (rows:List (List Dat)) (h0:∀ r∈rows,r.length=es.length) (h:∀ r∈rows,∀ (j:Nat) (e:Sh) (d:Dat),es[j]?=some e→r[j]?=some d→Fit e d):Fit (.sl es) (.sl es.length rows)
 | any (ao:Option Addr) (n c:Nat) (h1:n≤c) (h2:c≤maxLen):Fit .any (.v (.slice ao n c))
def FitR (es:List Sh) (r:List Dat):Prop:=r.length=es.length∧∀ (j:Nat) (e:Sh) (d:Dat),es[j]?=some e→r[j]?=some d→Fit e d
theorem FitR.nil:FitR [] []:=⟨rfl,fun j e d h=>by simp at h⟩
theorem FitR.one {e:Sh} {d:Dat} (h:Fit e d):FitR [e] [d]:=⟨rfl,fun j e' d' h1 h2=>by
 cases j with
 | zero=>simp at h1 h2;subst h1 h2;exact h
 | succ j=>simp at h1⟩
theorem FitR.app {es fs:List Sh} {r q:List Dat} (h:FitR es r) (g:FitR fs q):FitR (es++fs) (r++q):=by
 refine ⟨by rw[yA,yA,h.1,g.1],fun j e d h1 h2=>?_⟩;by_cases hj:j<es.length
 ·rw[List.getElem?_append_left hj]at h1;rw[List.getElem?_append_left (by rw[h.1];exact hj)]at h2;exact h.2 j e d h1 h2
 ·rw[List.getElem?_append_right (by omega)]at h1;rw[List.getElem?_append_right (by rw[h.1];omega),h.1]at h2;exact g.2 _ e d h1 h2
theorem FitR.cons {e:Sh} {es:List Sh} {r:List Dat} (h:FitR (e::es) r):∃ d q,r=d::q∧Fit e d∧FitR es q:=by
 match r,h with
 | d::q,h=>exact ⟨d,q,rfl,h.2 0 _ _ rfl rfl,by have:=h.1;simpa using this,fun j e' d' h1 h2=>h.2 (j+1) e' d' (by simpa using h1) (by simpa using h2)⟩
 | [],h=>exact absurd h.1 (by simp)
theorem FitR.done {r:List Dat} (h:FitR [] r):r=[]:=List.eq_nil_of_length_eq_zero h.1
theorem zjt {w:World} {a:Addr} {v:Value} (h:w.cell? a=some v):a.spot=none:=by
 obtain ⟨b,o,s⟩:=a
 cases s with
 | none=>rfl
 | some s =>
  exfalso
  revert h
  unfold World.cell?;split<;>simp
section
variable {H:Type} {enc:TypeId×Value→H} {P:Program} {w:World} {sp:Nat→Bool} {held:Bool}
theorem zjV {i:Int} (h:(Lit.int .i64 i).wf=true):-9223372036854775808≤i∧i≤9223372036854775807:=by
 have h0:IntKind.i64.min≤i∧i≤IntKind.i64.max:=by simpa [Lit.wf] using h
 have m0:IntKind.i64.min=-9223372036854775808:=by rfl
 have m1:IntKind.i64.max=9223372036854775807:=by rfl
 omega
theorem zkf (a:Addr) (m n:Nat):(a.add m).add n=a.add (m+n):=by
 obtain ⟨b,o,s⟩:=a;by_cases hm:m=0
 ·subst hm;simp[Addr.add]
 ·by_cases hn:n=0
  ·subst hn;simp[Addr.add]
  ·have:¬ (m=0∧n=0):=fun h=>hm h.1
   simp[Addr.add,hm,hn,this,Nat.add_assoc]
theorem zgc {fuel:Nat} {t e:TypeId} {es:List Sh} {cs:List Value} {x:DataW H×List MemPlace} (ht:P.underlying t=some (.slice e)) (hC:P.cellsOf e=es.length) (hz:0<es.length)
 (ih:∀ (fuel:Nat) (cs:List Value) (x:DataW H×List MemPlace),DataW.trod enc P w 0 sp held fuel e cs=some x→cs.length=es.length→∃ ds,FitR es ds∧Row w (fun _=>True) ds cs)
 (h:DataW.trod enc P w 0 sp held fuel t cs=some x):∃ ds,FitR [.sl es] ds∧Row w (fun _=>True) ds cs:=by
 rcases open_slice ht h with ⟨rfl,_⟩|⟨a,len,cap,m,n,D,Pl,rfl,_,hl,hm,hmm,_,hi⟩
 ·exact ⟨[.sl es.length []],.one (.sl es [] (fun r hr=>(by cases hr)) (fun r hr=>(by cases hr))),(Row.nil _ _).cons (Rep.nil _ _ _)⟩
 ·rw[hC]at hi;have hlm:len≤m:=by rw[hmm];split<;>omega
  obtain ⟨f,hf⟩:=choose_lt (α:=List Value×List Dat) fun i (him:i<len)=>by
   obtain ⟨cs',h1,h2⟩:=hi i (by omega);obtain ⟨_,h3,h4⟩:=World.cells?_some h1;obtain ⟨ds,h5,h6⟩:=ih _ _ _ h2 h3;exact (⟨(cs',ds),h3,h4,h5,h6⟩:∃ p:List Value×List Dat,p.1.length=es.length∧(∀ j,j<es.length→w.cell? ((a.add (i*es.length)).add j)=p.1[j]?)∧FitR es p.2∧Row w (fun _=>True) p.2 p.1)
  have hcell:∀ i,i<len→∀ j,j<es.length→w.cell? (a.add (i*es.length+j))=(f i).1[j]?:=fun i him j hj=>by
   rw[← zkf];exact (hf i him).2.1 j hj
  have hget:∀ (i:Nat),i<len→((List.range len).map fun i=>(f i).1)[i]?=some (f i).1:=fun i hi=>by simp[hi]
  have hget2:∀ (i:Nat),i<len→((List.range len).map fun i=>(f i).2)[i]?=some (f i).2:=fun i hi=>by simp[hi]
  have hlen:((List.range len).map fun i=>(f i).2).length=len:=by simp
  refine ⟨[.sl es.length ((List.range len).map fun i=>(f i).2)],.one (.sl es _ (fun r hr=>?_) (fun r hr=>?_)),(Row.nil _ _).cons ?_⟩
  ·obtain ⟨i,him,rfl⟩:=List.mem_map.1 hr;exact (hf i (List.mem_range.1 him)).2.2.1.1
  ·obtain ⟨i,him,rfl⟩:=List.mem_map.1 hr;exact (hf i (List.mem_range.1 him)).2.2.1.2
  ·have hR:=Rep.sl (W:=w) (ok:=fun _=>True) es.length ((List.range len).map fun i=>(f i).2) (some a) cap ((List.range len).map fun i=>(f i).1) (by rw[hlen];exact hl) hm (by simp) ?_ ?_ ?_
   ·rw[hlen]at hR;exact hR
   ·intro i r cs' h1 h2;have hil:i<len:=by have:=(yE.1 h1).1;rw[hlen]at this;exact this
    rw[hget i hil]at h2;rw[hget2 i hil]at h1;obtain rfl:=Option.some.inj h1;obtain rfl:=Option.some.inj h2;exact ⟨(hf i hil).2.2.1.1,(hf i hil).1⟩
   ·intro i cs' h2;have hil:i<len:=by have:=(yE.1 h2).1;simpa using this
    rw[hget i hil]at h2;obtain rfl:=Option.some.inj h2;have h0:=hcell i hil 0 hz;have hv:(f i).1[0]?=some ((f i).1[0]'(by rw[(hf i hil).1];exact hz)):=yF _;rw[hv]at h0;have hs:a.spot=none:=by
     have h9:=hcell 0 (by omega) 0 hz;rw[Nat.zero_mul,Nat.zero_add,yF (by rw[(hf 0 (by omega)).1];exact hz)]at h9;have:=zjt h9;obtain ⟨b,o,s⟩:=a;simpa [Addr.add] using this
    obtain ⟨b,o,s⟩:=a;obtain rfl:s=none:=hs;refine ⟨b,o,rfl,?_,trivial,fun j hj=>?_⟩
    ·rw[Addr.add_lit]at h0;exact zb3 h0
    ·have:=hcell i hil j hj;rwa [Addr.add_lit]at this
   ·intro i r cs' j d c h1 h2 h3 h4;have hil:i<len:=by have:=(yE.1 h1).1;rw[hlen]at this;exact this
    rw[hget i hil]at h2;rw[hget2 i hil]at h1;obtain rfl:=Option.some.inj h1;obtain rfl:=Option.some.inj h2;exact (hf i hil).2.2.2.2 j d c h3 h4
theorem zhC {ds:List Dat} {cs:List Value} {k:Nat} {W:World} {ok:Nat→Prop} (h:Row W ok ds (cs.take k)) (hk:k≤cs.length) {es:List Dat} (g:Row W ok es (cs.drop k)):Row W ok (ds++es) cs:=by
 have:=h.app g;rwa [List.take_append_drop]at this
theorem zgd {n:Nat} {g:TypeId→Option (List Sh)} {cs:List Value}
 (ih:∀ (t:TypeId) (es:List Sh),g t=some es→∀ (fuel:Nat) (cs:List Value) (x:DataW H×List MemPlace),DataW.trod enc P w 0 sp held fuel t cs=some x→cs.length=es.length→∃ ds,FitR es ds∧Row w (fun _=>True) ds cs) :
 ∀ (fl:List Field) (off:Nat) (es:List Sh),shFs P g fl off=some es→off+es.length=cs.length→(∀ f∈fl,∃ x,DataW.trod enc P w 0 sp held n f.type (List.take (P.cellsOf f.type) (List.drop f.offset cs))=some x)→∃ ds,FitR es ds∧Row w (fun _=>True) ds (cs.drop off)
 | [],off,es,h,hl,hx=>by
  obtain rfl:[]=es:=Option.some.inj h;refine ⟨[],.nil,?_⟩;rw[List.drop_of_length_le (by simpa using Nat.le_of_eq hl.symm)];exact Row.nil _ _
 | f::r,off,es,h,hl,hx=>by
  unfold shFs at h;split at h
  ·rename_i ho
   split at h
   ·rename_i e1 hg
    split at h
    ·rename_i hc
     split at h
     ·rename_i q hq
      obtain rfl:=Option.some.inj h;rw[yA]at hl;obtain ⟨x,hxf⟩:=hx f (by simp);rw[hc,ho]at hxf;have hlt:(List.take e1.length (List.drop off cs)).length=e1.length:=by rw[List.length_take,List.length_drop];omega
      obtain ⟨ds,hd1,hd2⟩:=ih _ _ hg _ _ _ hxf hlt;obtain ⟨ds2,hd3,hd4⟩:=zgd ih r (off+e1.length) q hq (by omega) (fun f' hf'=>hx f' (by simp[hf']));refine ⟨ds++ds2,hd1.app hd3,zhC (k:=e1.length) hd2 (by rw[List.length_drop];omega) ?_⟩;rw[List.drop_drop];exact hd4
     ·cases h
    ·cases h
   ·cases h
  ·cases h
theorem zep:∀ (n:Nat) (t:TypeId) (es:List Sh),shOf P n t=some es→∀ (fuel:Nat) (cs:List Value) (x:DataW H×List MemPlace),DataW.trod enc P w 0 sp held fuel t cs=some x→cs.length=es.length→∃ ds,FitR es ds∧Row w (fun _=>True) ds cs
 | 0,t,es,h=>by cases h
 | n+1,t,es,h=>by
  intro fuel cs x hx hl;unfold shOf at h;split at h
  ·rename_i hu
   obtain rfl:=Option.some.inj h;obtain ⟨i,rfl,_,hw⟩:=DataW.trod_int hu hx;exact ⟨[dI i],.one (.i i (zjV hw)),(Row.nil _ _).cons (.v _ rfl)⟩
  ·rename_i hu
   obtain rfl:=Option.some.inj h;obtain ⟨s,rfl,_,hs⟩:=DataW.trod_string hu hx;exact ⟨[dS s.data.toList],.one (.s _ (by simpa using hs)),(Row.nil _ _).cons (.v _ rfl)⟩
  ·rename_i hu
   obtain rfl:=Option.some.inj h;obtain ⟨b,rfl,_⟩:=DataW.trod_bool hu hx;exact ⟨[dB b],.one (.b b),(Row.nil _ _).cons (.v _ rfl)⟩
  ·rename_i e hu
   obtain rfl:=Option.some.inj h;have hany:∃ ds,FitR [.any] ds∧Row w (fun _=>True) ds cs:=by
    rcases open_slice hu hx with ⟨rfl,_⟩|⟨a,len,cap,m,k,D,Pl,rfl,_,hlc,hm,_⟩
    ·exact ⟨[.v (.slice none 0 0)],.one (.any _ _ _ (yG _) (by unfold maxLen;omega)),(Row.nil _ _).cons (.v _ rfl)⟩
    ·exact ⟨[.v (.slice (some a) len cap)],.one (.any _ _ _ hlc hm),(Row.nil _ _).cons (.v _ rfl)⟩
   split
   ·rename_i es he
    split
    ·rename_i hc
     exact zgc hu hc.1 hc.2 (fun fuel cs x h1 h2=>zep n e es he fuel cs x h1 h2) hx
    ·exact hany
   ·exact hany
  ·rename_i fs hu
   split at h
   ·rename_i q hq
    split at h
    ·obtain rfl:=Option.some.inj h;obtain ⟨ys,m,_,_,hlen,hyl,hg⟩:=DataW.trod_struct hu hx;have:=zgd (n:=m) (cs:=cs) (fun t es h1=>zep n t es h1) fs.toList 0 q hq (by omega) (fun f hf=>by
      obtain ⟨i,hi⟩:=List.getElem?_of_mem hf;have hi':fs[i]?=some f:=by rw[← Array.getElem?_toList];exact hi
      have hil:=(Array.getElem?_eq_some_iff.1 hi').1;have:=hg i f hi';rw[yF (by omega)]at this;exact ⟨_,this⟩)
     simpa using this
    ·cases h
   ·cases h
  ·cases h
theorem open_arg {t:TypeId} {fs:Array Field} {es:List Sh} {n:Nat} {r:Reach} {b0:Nat} {v:Value} {d:DataW H} {p:List MemPlace} (hu:P.underlying t=some (.struct fs)) (hs:shOf P n t=some es) (hc:P.cellsOf t=es.length) (hv:Value.okWide P w r b0 t v) (h:DataW.Trod enc P w 0 sp held t v d p) :
 ∃ (cs:List Value) (ds:List Dat),v=.agg cs.toArray∧FitR es ds∧Row w (fun _=>True) ds cs:=by
 obtain ⟨ca,rfl,hsz⟩:=okWide_struct hu hv;obtain ⟨fuel,hf⟩:=h;have e1:(Value.cells (.agg ca)).toList=ca.toList:=by simp[Value.cells]
 rw[e1]at hf;obtain ⟨ds,h1,h2⟩:=zep n t _ hs fuel _ _ hf (by simpa using hsz.trans hc);exact ⟨ca.toList,ds,by simp,h1,h2⟩
end
