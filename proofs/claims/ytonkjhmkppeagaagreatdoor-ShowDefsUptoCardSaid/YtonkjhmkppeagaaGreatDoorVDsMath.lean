/- Arguments of whatever plain type, opened: their shape, their cells as rows of data, a bound for all texts in them. Walks: show.def of any definition. A definition that is an argument, opened; how long its texts may be. Plain facts on the text of a flat definition: how long it is, what it is where it is read back. Walks: awake, the law of an expression's text. -/
import Derived.Test.YtonkjhmkppeagaaGreatDoorVFrame
import Derived.Test.YtonkjhmkppeagaaGreatDoorVPsA
import Derived.Deep.Slices
import Derived.Test.YtonkjhmkppeagaaGreatDoorVShH
import Derived.Test.YtonkjhmkppeagaaGreatDoorRows
import Derived.Test.YtonkjhmkppeagaaGreatDoorVDfG
import Derived.Test.YtonkjhmkppeagaaGreatDoorVRfA
set_option linter.unusedVariables false
set_option linter.unusedSimpArgs false
namespace Go.Proofs.YtonkjhmkppeagaaGreatDoor.Pz
open Go.Proofs.Tryz
open Go.ChangeShapes Go.WideShapes Go.RowKit Go.Deep Go Ba Lx
inductive Sh where
 | i
 | s
 | b
 | sl (es:List Sh)
 | any
def shFs (P:Program) (g:TypeId→Option (List Sh)):List Field→Nat→Option (List Sh)
 | [],_=>some []
 | f::r,off=>if f.offset=off then (match g f.type with
  | some es=>if P.cellsOf f.type=es.length then (match shFs P g r (off+es.length) with
   | some q=>some (es++q)
   | none=>none) else none
  | none=>none) else none
def shOf (P:Program):Nat→TypeId→Option (List Sh)
 | 0,_=>none
 | n+1,t=>match P.underlying t with
  | some (.int .i64)=>some [.i]
  | some .string=>some [.s]
  | some .bool=>some [.b]
  | some (.slice e)=>some [match shOf P n e with
   | some es=>if P.cellsOf e=es.length∧0<es.length then .sl es else .any
   | none=>.any]
  | some (.struct fs)=>(match shFs P (shOf P n) fs.toList 0 with
   | some es=>if P.cellsOf t=es.length then some es else none
   | none=>none)
  | _=>none
inductive FitB (M:Nat):Sh→Dat→Prop
 | i (n:Int) (h:-9223372036854775808≤n∧n≤9223372036854775807):FitB M .i (dI n)
 | s (t:Str) (h:t.length≤M):FitB M .s (dS t)
 | b (x:Bool):FitB M .b (dB x)
 | sl (es:List Sh) (rows:List (List Dat)) (hm:rows.length≤M) (h0:∀ r∈rows,r.length=es.length) (h:∀ r∈rows,∀ (j:Nat) (e:Sh) (d:Dat),es[j]?=some e→r[j]?=some d→FitB M e d):FitB M (.sl es) (.sl es.length rows)
 | any (ao:Option Addr) (n c:Nat) (h0:n≤M) (h1:n≤c) (h2:c≤maxLen):FitB M .any (.v (.slice ao n c))
def FitRB (M:Nat) (es:List Sh) (r:List Dat):Prop:=r.length=es.length∧∀ (j:Nat) (e:Sh) (d:Dat),es[j]?=some e→r[j]?=some d→FitB M e d
theorem FitRB.nil {M:Nat}:FitRB M [] []:=⟨rfl,fun j e d h=>by simp at h⟩
theorem FitRB.one {M:Nat} {e:Sh} {d:Dat} (h:FitB M e d):FitRB M [e] [d]:=⟨rfl,fun j e' d' h1 h2=>by
 cases j with
 | zero=>simp at h1 h2;subst h1 h2;exact h
 | succ j=>simp at h1⟩
theorem FitRB.app {M:Nat} {es fs:List Sh} {r q:List Dat} (h:FitRB M es r) (g:FitRB M fs q):FitRB M (es++fs) (r++q):=by
 refine ⟨by rw[yA,yA,h.1,g.1],fun j e d h1 h2=>?_⟩;by_cases hj:j<es.length
 ·rw[List.getElem?_append_left hj]at h1;rw[List.getElem?_append_left (by rw[h.1];exact hj)]at h2;exact h.2 j e d h1 h2
 ·rw[List.getElem?_append_right (by omega)]at h1;rw[List.getElem?_append_right (by rw[h.1];omega),h.1]at h2;exact g.2 _ e d h1 h2
theorem FitRB.cons {M:Nat} {e:Sh} {es:List Sh} {r:List Dat} (h:FitRB M (e::es) r):∃ d q,r=d::q∧FitB M e d∧FitRB M es q:=by
 match r,h with
 | d::q,h=>exact ⟨d,q,rfl,h.2 0 _ _ rfl rfl,by have:=h.1;simpa using this,fun j e' d' h1 h2=>h.2 (j+1) e' d' (by simpa using h1) (by simpa using h2)⟩
 | [],h=>exact absurd h.1 (by simp)
theorem FitRB.done {M:Nat} {r:List Dat} (h:FitRB M [] r):r=[]:=List.eq_nil_of_length_eq_zero h.1
theorem zjt {w:World} {a:Addr} {v:Value} (h:w.cell? a=some v):a.spot=none:=by
 obtain ⟨b,o,s⟩:=a
 cases s with
 | none=>rfl
 | some s =>
  exfalso
  revert h
  unfold World.cell?;split<;>simp
structure zk9 (H:Type) (M:Nat) (Bk:DataW H→Prop):Prop where
 s:∀ b,Bk (.lit (.string b))→b.length≤M
 sl:∀ es sp,Bk (.slice es sp)→∀ e∈es,Bk e
 ag:∀ ps,Bk (.agg ps)→∀ p∈ps,Bk p
 ln:∀ es sp,Bk (.slice es sp)→es.length≤M
section
variable {H:Type} {M:Nat} {Bk:DataW H→Prop} {enc:TypeId×Value→H} {P:Program} {w:World} {sp:Nat→Bool} {held:Bool}
theorem zjV {i:Int} (h:(Lit.int .i64 i).wf=true):-9223372036854775808≤i∧i≤9223372036854775807:=by
 have h0:IntKind.i64.min≤i∧i≤IntKind.i64.max:=by simpa [Lit.wf] using h
 have m0:IntKind.i64.min=-9223372036854775808:=by rfl
 have m1:IntKind.i64.max=9223372036854775807:=by rfl
 omega
theorem zkf (a:Addr) (m n:Nat):(a.add m).add n=a.add (m+n):=by
 obtain ⟨b,o,s⟩:=a;by_cases hm:m=0
 ·subst hm;simp[Addr.add]
 ·by_cases hn:n=0
  ·subst hn;simp[Addr.add]
  ·have:¬ (m=0∧n=0):=fun h=>hm h.1
   simp[Addr.add,hm,hn,this,Nat.add_assoc]
theorem zgc (hBk:zk9 H M Bk) {fuel:Nat} {t e:TypeId} {es:List Sh} {cs:List Value} {x:DataW H×List MemPlace} (ht:P.underlying t=some (.slice e)) (hC:P.cellsOf e=es.length) (hz:0<es.length)
 (ih:∀ (fuel:Nat) (cs:List Value) (x:DataW H×List MemPlace),DataW.trod enc P w 0 sp held fuel e cs=some x→Bk x.1→cs.length=es.length→∃ ds,FitRB M es ds∧Row w (fun _=>True) ds cs)
 (h:DataW.trod enc P w 0 sp held fuel t cs=some x) (hb:Bk x.1):∃ ds,FitRB M [.sl es] ds∧Row w (fun _=>True) ds cs:=by
 rcases open_slice ht h with ⟨rfl,_⟩|⟨a,len,cap,m,n,D,Pl,rfl,_,hl,hm,hmm,hx,hi⟩
 ·exact ⟨[.sl es.length []],.one (.sl es [] (yS _) (fun r hr=>(by cases hr)) (fun r hr=>(by cases hr))),(Row.nil _ _).cons (Rep.nil _ _ _)⟩
 ·have hlM:len≤M:=by have:=hBk.ln _ _ (by rw[hx]at hb;exact hb);simpa using this
  rw[hC]at hi;have hlm:len≤m:=by rw[hmm];split<;>omega
  obtain ⟨f,hf⟩:=choose_lt (α:=List Value×List Dat) fun i (him:i<len)=>by
   obtain ⟨cs',h1,h2⟩:=hi i (by omega);obtain ⟨_,h3,h4⟩:=World.cells?_some h1;obtain ⟨ds,h5,h6⟩:=ih _ _ _ h2 (hBk.sl _ _ (by rw[hx]at hb;exact hb) _ (List.mem_map.2 ⟨i,List.mem_range.2 him,rfl⟩)) h3;exact (⟨(cs',ds),h3,h4,h5,h6⟩:∃ p:List Value×List Dat,p.1.length=es.length∧(∀ j,j<es.length→w.cell? ((a.add (i*es.length)).add j)=p.1[j]?)∧FitRB M es p.2∧Row w (fun _=>True) p.2 p.1)
  have hcell:∀ i,i<len→∀ j,j<es.length→w.cell? (a.add (i*es.length+j))=(f i).1[j]?:=fun i him j hj=>by
   rw[← zkf];exact (hf i him).2.1 j hj
  have hget:∀ (i:Nat),i<len→((List.range len).map fun i=>(f i).1)[i]?=some (f i).1:=fun i hi=>by simp[hi]
  have hget2:∀ (i:Nat),i<len→((List.range len).map fun i=>(f i).2)[i]?=some (f i).2:=fun i hi=>by simp[hi]
  have hlen:((List.range len).map fun i=>(f i).2).length=len:=by simp
  refine ⟨[.sl es.length ((List.range len).map fun i=>(f i).2)],.one (.sl es _ (by rw[hlen];exact hlM) (fun r hr=>?_) (fun r hr=>?_)),(Row.nil _ _).cons ?_⟩
  ·obtain ⟨i,him,rfl⟩:=List.mem_map.1 hr;exact (hf i (List.mem_range.1 him)).2.2.1.1
  ·obtain ⟨i,him,rfl⟩:=List.mem_map.1 hr;exact (hf i (List.mem_range.1 him)).2.2.1.2
  ·have hR:=Rep.sl (W:=w) (ok:=fun _=>True) es.length ((List.range len).map fun i=>(f i).2) (some a) cap ((List.range len).map fun i=>(f i).1) (by rw[hlen];exact hl) hm (by simp) ?_ ?_ ?_
   ·rw[hlen]at hR;exact hR
   ·intro i r cs' h1 h2;have hil:i<len:=by have:=(yE.1 h1).1;rw[hlen]at this;exact this
    rw[hget i hil]at h2;rw[hget2 i hil]at h1;obtain rfl:=Option.some.inj h1;obtain rfl:=Option.some.inj h2;exact ⟨(hf i hil).2.2.1.1,(hf i hil).1⟩
   ·intro i cs' h2;have hil:i<len:=by have:=(yE.1 h2).1;simpa using this
    rw[hget i hil]at h2;obtain rfl:=Option.some.inj h2;have h0:=hcell i hil 0 hz;have hv:(f i).1[0]?=some ((f i).1[0]'(by rw[(hf i hil).1];exact hz)):=yF _;rw[hv]at h0;have hs:a.spot=none:=by
     have h9:=hcell 0 (by omega) 0 hz;rw[Nat.zero_mul,Nat.zero_add,yF (by rw[(hf 0 (by omega)).1];exact hz)]at h9;have:=zjt h9;obtain ⟨b,o,s⟩:=a;simpa [Addr.add] using this
    obtain ⟨b,o,s⟩:=a;obtain rfl:s=none:=hs;refine ⟨b,o,rfl,?_,trivial,fun j hj=>?_⟩
    ·rw[Addr.add_lit]at h0;exact zb3 h0
    ·have:=hcell i hil j hj;rwa [Addr.add_lit]at this
   ·intro i r cs' j d c h1 h2 h3 h4;have hil:i<len:=by have:=(yE.1 h1).1;rw[hlen]at this;exact this
    rw[hget i hil]at h2;rw[hget2 i hil]at h1;obtain rfl:=Option.some.inj h1;obtain rfl:=Option.some.inj h2;exact (hf i hil).2.2.2.2 j d c h3 h4
theorem zhC {ds:List Dat} {cs:List Value} {k:Nat} {W:World} {ok:Nat→Prop} (h:Row W ok ds (cs.take k)) (hk:k≤cs.length) {es:List Dat} (g:Row W ok es (cs.drop k)):Row W ok (ds++es) cs:=by
 have:=h.app g;rwa [List.take_append_drop]at this
theorem zgd {n:Nat} {g:TypeId→Option (List Sh)} {cs:List Value}
 (ih:∀ (t:TypeId) (es:List Sh),g t=some es→∀ (fuel:Nat) (cs:List Value) (x:DataW H×List MemPlace),DataW.trod enc P w 0 sp held fuel t cs=some x→Bk x.1→cs.length=es.length→∃ ds,FitRB M es ds∧Row w (fun _=>True) ds cs) :
 ∀ (fl:List Field) (off:Nat) (es:List Sh),shFs P g fl off=some es→off+es.length=cs.length→(∀ f∈fl,∃ x,DataW.trod enc P w 0 sp held n f.type (List.take (P.cellsOf f.type) (List.drop f.offset cs))=some x∧Bk x.1)→∃ ds,FitRB M es ds∧Row w (fun _=>True) ds (cs.drop off)
 | [],off,es,h,hl,hx=>by
  obtain rfl:[]=es:=Option.some.inj h;refine ⟨[],.nil,?_⟩;rw[List.drop_of_length_le (by simpa using Nat.le_of_eq hl.symm)];exact Row.nil _ _
 | f::r,off,es,h,hl,hx=>by
  unfold shFs at h;split at h
  ·rename_i ho
   split at h
   ·rename_i e1 hg
    split at h
    ·rename_i hc
     split at h
     ·rename_i q hq
      obtain rfl:=Option.some.inj h;rw[yA]at hl;obtain ⟨x,hxf,hxb⟩:=hx f (by simp);rw[hc,ho]at hxf;have hlt:(List.take e1.length (List.drop off cs)).length=e1.length:=by rw[List.length_take,List.length_drop];omega
      obtain ⟨ds,hd1,hd2⟩:=ih _ _ hg _ _ _ hxf hxb hlt;obtain ⟨ds2,hd3,hd4⟩:=zgd ih r (off+e1.length) q hq (by omega) (fun f' hf'=>hx f' (by simp[hf']));refine ⟨ds++ds2,hd1.app hd3,zhC (k:=e1.length) hd2 (by rw[List.length_drop];omega) ?_⟩;rw[List.drop_drop];exact hd4
     ·cases h
    ·cases h
   ·cases h
  ·cases h
theorem zep (hBk:zk9 H M Bk):∀ (n:Nat) (t:TypeId) (es:List Sh),shOf P n t=some es→∀ (fuel:Nat) (cs:List Value) (x:DataW H×List MemPlace),DataW.trod enc P w 0 sp held fuel t cs=some x→Bk x.1→cs.length=es.length→∃ ds,FitRB M es ds∧Row w (fun _=>True) ds cs
 | 0,t,es,h=>by cases h
 | n+1,t,es,h=>by
  intro fuel cs x hx hb hl;unfold shOf at h;split at h
  ·rename_i hu
   obtain rfl:=Option.some.inj h;obtain ⟨i,rfl,_,hw⟩:=DataW.trod_int hu hx;exact ⟨[dI i],.one (.i i (zjV hw)),(Row.nil _ _).cons (.v _ rfl)⟩
  ·rename_i hu
   obtain rfl:=Option.some.inj h;obtain ⟨s,rfl,hxe,hs⟩:=DataW.trod_string hu hx;exact ⟨[dS s.data.toList],.one (.s _ (hBk.s _ (by rw[hxe]at hb;exact hb))),(Row.nil _ _).cons (.v _ rfl)⟩
  ·rename_i hu
   obtain rfl:=Option.some.inj h;obtain ⟨b,rfl,_⟩:=DataW.trod_bool hu hx;exact ⟨[dB b],.one (.b b),(Row.nil _ _).cons (.v _ rfl)⟩
  ·rename_i e hu
   obtain rfl:=Option.some.inj h;have hany:∃ ds,FitRB M [.any] ds∧Row w (fun _=>True) ds cs:=by
    rcases open_slice hu hx with ⟨rfl,_⟩|⟨a,len,cap,m,k,D,Pl,rfl,_,hlc,hm,_,hxe,_⟩
    ·exact ⟨[.v (.slice none 0 0)],.one (.any _ _ _ (yS _) (yG _) (by unfold maxLen;omega)),(Row.nil _ _).cons (.v _ rfl)⟩
    ·exact ⟨[.v (.slice (some a) len cap)],.one (.any _ _ _ (by have:=hBk.ln _ _ (by rw[hxe]at hb;exact hb);simpa using this) hlc hm),(Row.nil _ _).cons (.v _ rfl)⟩
   split
   ·rename_i es he
    split
    ·rename_i hc
     exact zgc hBk hu hc.1 hc.2 (fun fuel cs x h1 h2 h3=>zep hBk n e es he fuel cs x h1 h2 h3) hx hb
    ·exact hany
   ·exact hany
  ·rename_i fs hu
   split at h
   ·rename_i q hq
    split at h
    ·obtain rfl:=Option.some.inj h;obtain ⟨ys,m,_,hxe,hlen,hyl,hg⟩:=DataW.trod_struct hu hx;have:=zgd (n:=m) (cs:=cs) (fun t es h1=>zep hBk n t es h1) fs.toList 0 q hq (by omega) (fun f hf=>by
      obtain ⟨i,hi⟩:=List.getElem?_of_mem hf;have hi':fs[i]?=some f:=by rw[← Array.getElem?_toList];exact hi
      have hil:=(Array.getElem?_eq_some_iff.1 hi').1;have:=hg i f hi';rw[yF (by omega)]at this;exact ⟨_,this,hBk.ag _ (by rw[hxe]at hb;exact hb) _ (List.mem_map.2 ⟨_,List.getElem_mem _,rfl⟩)⟩)
     simpa using this
    ·cases h
   ·cases h
  ·cases h
theorem open_arg {t:TypeId} {fs:Array Field} {es:List Sh} {n:Nat} {r:Reach} {b0:Nat} {v:Value} {d:DataW H} {p:List MemPlace} (hu:P.underlying t=some (.struct fs)) (hs:shOf P n t=some es) (hc:P.cellsOf t=es.length) (hv:Value.okWide P w r b0 t v) (h:DataW.Trod enc P w 0 sp held t v d p) (hBk:zk9 H M Bk) (hb:Bk d) :
 ∃ (cs:List Value) (ds:List Dat),v=.agg cs.toArray∧FitRB M es ds∧Row w (fun _=>True) ds cs:=by
 obtain ⟨ca,rfl,hsz⟩:=okWide_struct hu hv;obtain ⟨fuel,hf⟩:=h;have e1:(Value.cells (.agg ca)).toList=ca.toList:=by simp[Value.cells]
 rw[e1]at hf;obtain ⟨ds,h1,h2⟩:=zep hBk n t _ hs fuel _ _ hf hb (by simpa using hsz.trans hc);exact ⟨ca.toList,ds,by simp,h1,h2⟩
end
end Go.Proofs.YtonkjhmkppeagaaGreatDoor.Pz
namespace Go.Proofs.YtonkjhmkppeagaaGreatDoor.Pz
open Go.Proofs.Tryz
open Go.RowKit Go Go.Sort Ba Lx
def dfG (d:Df) (pt:Str):Str :=
 if d.k=1 then zaC [zba,d.nm,40::(joinS [44,32] (d.sch.map colT)++[41]),scT d.sc]
 else if d.k=2 then zaC [zbl,d.nm,scT d.sc,sFrom,joinS [44,32] (d.ins.map inT),sDo,pt]
 else zaC [zaG,d.nm,Va.showL 2 0 ⟨d.cron.toArray⟩,za1,joinS [44,32] d.mks]
structure DfBd (d:Df):Prop where
 f:-9223372036854775808≤d.sc.f∧d.sc.f≤9223372036854775807
 l:-9223372036854775808≤d.sc.l∧d.sc.l≤9223372036854775807
 n:∀ x∈d.ins,-9223372036854775808≤x.n∧x.n≤9223372036854775807
 c:d.cron.length≤9223372036854775807
 n1:d.sch.length≤600000
 n2:d.ins.length≤600000
 n3:d.mks.length≤600000
set_option maxRecDepth 100000 in
theorem zpi (d:Df) (pt:Str) (hb:DfBd d) (hq:d.k=2→∀ (ps:List Value) (W:World) (o:Nat→Prop),Row W o (plD d.plan) ps→EnvX W→Calls Tryz.prog 72 #[.agg ps.toArray] W (StrTo pt W)) (hlen:(dfG d pt).length≤99000000)
 (cs:List Value) (W:World) (ok:Nat→Prop) (hA:Row W ok (dfD d) cs) (hE:EnvX W):Calls Tryz.prog 74 #[.agg cs.toArray] W (StrTo (dfG d pt++[59,10]) W):=by
 obtain ⟨s0,s1,s2,ps,rfl,h⟩:=zi8 hA;obtain ⟨p0,p1,p2,p3,p4,p5,p6,p7,p8,p9,pa,pb,pc,pd,pe,pf,rfl⟩:=ziS (Row.len16 h.plan);clear hA;obtain ⟨b1,b2,b3,b4,b5,b6,b7⟩:=hb;obtain ⟨k,nm,sch,⟨sk,sf,sl⟩,ins,plan,cron,mks⟩:=d;simp only at *
 by_cases h1:k=1
 ·subst h1;have e:dfG ⟨1,nm,sch,⟨sk,sf,sl⟩,ins,plan,cron,mks⟩ pt=zaC [zba,nm,40::(joinS [44,32] (sch.map colT)++[41]),scT ⟨sk,sf,sl⟩]:=rfl;rw[e]at hlen ⊢;obtain ⟨ca,cc,rfl,_⟩:=h.sch.len;have hs:=h.sch;rw[yC]at hs ⊢;exact zs8 nm sch sk sf sl b1.1 b1.2 b2.1 b2.2 ca cc s1 p0 p1 p2 p3 p4 p5 p6 p7 p8 p9 pa pb pc pd pe pf (.string ⟨cron.toArray⟩) s2 W hE ok hs b5 (by omega)
 by_cases h2:k=2
 ·subst h2;have e:dfG ⟨2,nm,sch,⟨sk,sf,sl⟩,ins,plan,cron,mks⟩ pt=zaC [zbl,nm,scT ⟨sk,sf,sl⟩,sFrom,joinS [44,32] (ins.map inT),sDo,pt]:=rfl;rw[e]at hlen ⊢;obtain ⟨ca,cc,rfl,_⟩:=h.ins.len;have hs:=h.ins;rw[yC]at hs ⊢;exact zs7 nm ins pt sk sf sl b1.1 b1.2 b2.1 b2.2 ca cc s0 p0 p1 p2 p3 p4 p5 p6 p7 p8 p9 pa pb pc pd pe pf (.string ⟨cron.toArray⟩) s2 W hE ok hs b3 b6 (fun W' hW=>hq rfl [p0,p1,p2,p3,p4,p5,p6,p7,p8,p9,pa,pb,pc,pd,pe,pf] W' ok (h.plan.kept (S:=fun _=>False) (Kept.of_below hW) (fun _ _ _ x=>x)) (hE.below hW)) (by omega)
 ·have e:dfG ⟨k,nm,sch,⟨sk,sf,sl⟩,ins,plan,cron,mks⟩ pt=zaC [zaG,nm,Va.showL 2 0 ⟨cron.toArray⟩,za1,joinS [44,32] mks]:=by unfold dfG;rw[if_neg h1,if_neg h2]
  rw[e]at hlen ⊢;obtain ⟨ca,cc,rfl,_⟩:=h.mks.len;have hs:=h.mks;rw[yC]at hs ⊢;exact zs6 k (by rw[beq_eq_false_iff_ne];exact h1) (by rw[beq_eq_false_iff_ne];exact h2) nm ⟨cron.toArray⟩ (by rw[sz_mk];exact b4) mks sk sf sl ca cc s0 s1 p0 p1 p2 p3 p4 p5 p6 p7 p8 p9 pa pb pc pd pe pf W hE ok hs b7 (by omega)
end Go.Proofs.YtonkjhmkppeagaaGreatDoor.Pz
namespace Go.Proofs.YtonkjhmkppeagaaGreatDoor.Pz
open Go.Proofs.Tryz
open Go.RowKit Go Ba Lx
theorem bulk_part {H:Type} {d:DataW H}:∀ {l:List (DataW H)},d∈l→Rows.uptoBulk d≤Rows.uptoBulkAll l
 | x::r,h=>by
  simp only[Rows.uptoBulkAll];rcases List.mem_cons.1 h with rfl|h
  ·omega
  ·have:=bulk_part h;omega
theorem zqv {H:Type} (d:DataW H):1≤Rows.uptoBulk d:=by
 cases d with
 | lit l=>cases l<;>simp[Rows.uptoBulk]
 | nil=>simp[Rows.uptoBulk]
 | ptr d=>simp[Rows.uptoBulk]
 | slice elems spare=>simp[Rows.uptoBulk]
 | agg parts=>simp[Rows.uptoBulk]
 | iface t d=>simp[Rows.uptoBulk]
 | map entries=>simp[Rows.uptoBulk]
 | held h=>simp[Rows.uptoBulk]
theorem zk6 {H:Type}:∀ l:List (DataW H),l.length≤Rows.uptoBulkAll l
 | []=>yS _
 | x::r=>by
  have h1:=zqv x;have h2:=zk6 r;simp only[Rows.uptoBulkAll,yB];omega
theorem bulk_bounds (H:Type):zk9 H 1048576 (fun d=>Rows.uptoBulk d≤1048576) where
 s:=fun b h=>by
  have h2:b.length+1≤1048576:=h;omega
 sl:=fun es sp h e he=>by
  have h1:=bulk_part he;have h2:Rows.uptoBulkAll es+Rows.uptoBulkAll sp+1≤1048576:=h;show Rows.uptoBulk e≤1048576
  omega
 ln:=fun es sp h=>by
  have h1:=zk6 es;have h2:Rows.uptoBulkAll es+Rows.uptoBulkAll sp+1≤1048576:=h;omega
 ag:=fun ps h e he=>by
  have h1:=bulk_part he;have h2:Rows.uptoBulkAll ps+1≤1048576:=h;show Rows.uptoBulk e≤1048576
  omega
theorem zdD {W:World} {ok:Nat→Prop} (k:Nat) (ao:Option Addr) (c:Nat) (h:c≤maxLen):Rep W ok (.sl k []) (.slice ao 0 c) :=
 Rep.sl k [] ao c [] (yS _) h rfl (fun i r cs h=>by simp at h) (fun i cs h=>by simp at h) (fun i r cs j d c h=>by simp at h)
theorem rowsB {α:Type} {rD:α→List Dat} {Q:α→Prop}:∀ rows:List (List Dat),(∀ r∈rows,∃ a,r=rD a∧Q a)→∃ l:List α,rows=l.map rD∧∀ a∈l,Q a
 | [],_=>⟨[],rfl,fun a h=>by cases h⟩
 | r::rows,h=>by
  obtain ⟨a,rfl,ha⟩:=h r yX;obtain ⟨l,rfl,hl⟩:=rowsB rows (fun r hr=>h r (yJ _ hr));refine ⟨a::l,rfl,fun b hb=>?_⟩;rcases List.mem_cons.1 hb with rfl|hb
  ·exact ha
  ·exact hl b hb
theorem colsB {M:Nat} {d:Dat} (h:FitB M (.sl [.s,.i]) d):∃ l:List (Str×Int),d=.sl 2 (l.map colD)∧∀ x∈l,x.1.length≤M:=by
 cases h with
 | sl _ rows hm h0 h =>
  obtain ⟨l,rfl,hl⟩:=rowsB (rD:=colD) (Q:=fun x=>x.1.length≤M) rows (fun r hr=>by
   have hr0:=h0 r hr;have hr1:=h r hr;match r,hr0,hr1 with
   | [d,e],_,hr1 =>
    have h1:=hr1 0 .s d rfl rfl;have h2:=hr1 1 .i e rfl rfl
    cases h1 with
    | s t ht =>
     cases h2 with
     | i b _=>exact ⟨(t,b),rfl,ht⟩)
  exact ⟨l,rfl,hl⟩
theorem inpsB {M:Nat} {d:Dat} (h:FitB M (.sl [.s,.i,.i,.s]) d):∃ l:List Inp,d=.sl 4 (l.map inpD)∧∀ x∈l,x.a.length≤M∧x.s.length≤M∧-9223372036854775808≤x.n∧x.n≤9223372036854775807:=by
 cases h with
 | sl _ rows hm h0 h =>
  obtain ⟨l,rfl,hl⟩:=rowsB (rD:=inpD) (Q:=fun x=>x.a.length≤M∧x.s.length≤M∧-9223372036854775808≤x.n∧x.n≤9223372036854775807) rows (fun r hr=>by
   have hr0:=h0 r hr;have hr1:=h r hr;match r,hr0,hr1 with
   | [d,e,f,g],_,hr1 =>
    have h1:=hr1 0 .s d rfl rfl;have h2:=hr1 1 .i e rfl rfl;have h3:=hr1 2 .i f rfl rfl;have h4:=hr1 3 .s g rfl rfl
    cases h1 with
    | s t ht =>
     cases h2 with
     | i b _ =>
      cases h3 with
      | i c hc =>
       cases h4 with
       | s u hu=>exact ⟨⟨t,b,c,u⟩,rfl,ht,hu,hc⟩)
  exact ⟨l,rfl,hl⟩
theorem strsB {M:Nat} {d:Dat} (h:FitB M (.sl [.s]) d):∃ l:List Str,d=.sl 1 (l.map strD)∧∀ x∈l,x.length≤M:=by
 cases h with
 | sl _ rows hm h0 h =>
  obtain ⟨l,rfl,hl⟩:=rowsB (rD:=strD) (Q:=fun x=>x.length≤M) rows (fun r hr=>by
   have hr0:=h0 r hr;have hr1:=h r hr;match r,hr0,hr1 with
   | [d],_,hr1 =>
    have h1:=hr1 0 .s d rfl rfl
    cases h1 with
    | s t ht=>exact ⟨t,rfl,ht⟩)
  exact ⟨l,rfl,hl⟩
abbrev shDf:List Sh:=[.i,.s,.sl [.s,.i],.i,.i,.i,.sl [.s,.i,.i,.s],.i,.s,.any,.i,.s,.i,.i,.s,.s,.any,.sl [.s],.any,.sl [.s,.s],.sl [.s,.s,.s],.sl [.s,.b],.i,.s,.sl [.s]]
abbrev dfcC (x:Df) (s0 s1 s2:Value) (v0 v1 v2 v3 v4 v5 v6:Value):List Value:=[.int .i64 x.k,.string ⟨x.nm.toArray⟩,s0,.int .i64 x.sc.k,.int .i64 x.sc.f,.int .i64 x.sc.l,s1,.int .i64 x.plan.k,.string ⟨x.plan.nm.toArray⟩,v0,.int .i64 x.plan.cond.k,.string ⟨x.plan.cond.nm.toArray⟩,.int .i64 x.plan.cond.v.k,.int .i64 x.plan.cond.v.n,.string ⟨x.plan.cond.v.t.toArray⟩,.string ⟨x.plan.cond.op.toArray⟩,v1,v2,v3,v4,v5,v6,.int .i64 x.plan.cnt,.string ⟨x.cron.toArray⟩,s2]
structure DfIn (W:World) (M:Nat) (x:Df) (s0 s1 s2:Value):Prop where
 flat:Flat x.plan
 sch:Rep W (fun _=>True) (.sl 2 (x.sch.map colD)) s0
 ins:Rep W (fun _=>True) (.sl 4 (x.ins.map inpD)) s1
 mks:Rep W (fun _=>True) (.sl 1 (x.mks.map strD)) s2
 f:-9223372036854775808≤x.sc.f∧x.sc.f≤9223372036854775807
 l:-9223372036854775808≤x.sc.l∧x.sc.l≤9223372036854775807
 nm:x.nm.length≤M
 cron:x.cron.length≤M
 pn:x.plan.nm.length≤M
 cols:∀ c∈x.sch,c.1.length≤M
 inps:∀ c∈x.ins,c.a.length≤M∧c.s.length≤M∧-9223372036854775808≤c.n∧c.n≤9223372036854775807
 names:∀ c∈x.mks,c.length≤M
def IsSl (v:Value) (n:Nat):Prop:=∃ ao c,v=.slice ao n c∧n≤c∧c≤maxLen∧n≤1048576
theorem zfL {W:World} {ok:Nat→Prop} {es:List Sh} {d:Dat} {v:Value} (h:FitB 1048576 (.sl es) d) (hr:Rep W ok d v):∃ n,IsSl v n:=by
 cases h with
 | sl _ rows hm h0 h =>
  obtain ⟨ao,c,rfl,h1,h2⟩:=hr.len;exact ⟨_,ao,c,rfl,h1,h2,hm⟩
theorem zhV {W:World} {ok:Nat→Prop} {d:Dat} {v:Value} (h:FitB 1048576 .any d) (hr:Rep W ok d v):∃ n,IsSl v n:=by
 cases h with
 | any ao n c h0 h1 h2 =>
  rw[hr.val];exact ⟨n,ao,c,rfl,h1,h2,h0⟩
theorem def_arg {W:World} {ds:List Dat} {cs:List Value} (h:FitRB 1048576 shDf ds) (hR:Row W (fun _=>True) ds cs) :
 ∃ (x:Df) (s0 s1 s2 v0 v1 v2 v3 v4 v5 v6:Value) (n0 n1 n2 n3 n4 n5 n6:Nat),cs=dfcC x s0 s1 s2 v0 v1 v2 v3 v4 v5 v6∧DfIn W 1048576 x s0 s1 s2∧IsSl v0 n0∧IsSl v1 n1∧IsSl v2 n2∧IsSl v3 n3∧IsSl v4 n4∧IsSl v5 n5∧IsSl v6 n6:=by
 obtain ⟨d0,q,rfl,f0,h⟩:=h.cons;obtain ⟨d1,q,rfl,f1,h⟩:=h.cons;obtain ⟨d2,q,rfl,f2,h⟩:=h.cons;obtain ⟨d3,q,rfl,f3,h⟩:=h.cons;obtain ⟨d4,q,rfl,f4,h⟩:=h.cons;obtain ⟨d5,q,rfl,f5,h⟩:=h.cons;obtain ⟨d6,q,rfl,f6,h⟩:=h.cons;obtain ⟨d7,q,rfl,f7,h⟩:=h.cons;obtain ⟨d8,q,rfl,f8,h⟩:=h.cons;obtain ⟨d9,q,rfl,f9,h⟩:=h.cons;obtain ⟨d10,q,rfl,f10,h⟩:=h.cons;obtain ⟨d11,q,rfl,f11,h⟩:=h.cons;obtain ⟨d12,q,rfl,f12,h⟩:=h.cons;obtain ⟨d13,q,rfl,f13,h⟩:=h.cons;obtain ⟨d14,q,rfl,f14,h⟩:=h.cons;obtain ⟨d15,q,rfl,f15,h⟩:=h.cons;obtain ⟨d16,q,rfl,f16,h⟩:=h.cons;obtain ⟨d17,q,rfl,f17,h⟩:=h.cons;obtain ⟨d18,q,rfl,f18,h⟩:=h.cons;obtain ⟨d19,q,rfl,f19,h⟩:=h.cons;obtain ⟨d20,q,rfl,f20,h⟩:=h.cons;obtain ⟨d21,q,rfl,f21,h⟩:=h.cons;obtain ⟨d22,q,rfl,f22,h⟩:=h.cons;obtain ⟨d23,q,rfl,f23,h⟩:=h.cons;obtain ⟨d24,q,rfl,f24,h⟩:=h.cons;obtain rfl:=h.done;obtain ⟨c0,r0,rfl,e0,hR⟩:=hR.uncons;obtain ⟨c1,r1,rfl,e1,hR⟩:=hR.uncons
 obtain ⟨c2,r2,rfl,e2,hR⟩:=hR.uncons;obtain ⟨c3,r3,rfl,e3,hR⟩:=hR.uncons;obtain ⟨c4,r4,rfl,e4,hR⟩:=hR.uncons;obtain ⟨c5,r5,rfl,e5,hR⟩:=hR.uncons;obtain ⟨c6,r6,rfl,e6,hR⟩:=hR.uncons;obtain ⟨c7,r7,rfl,e7,hR⟩:=hR.uncons;obtain ⟨c8,r8,rfl,e8,hR⟩:=hR.uncons;obtain ⟨c9,r9,rfl,e9,hR⟩:=hR.uncons;obtain ⟨c10,r10,rfl,e10,hR⟩:=hR.uncons;obtain ⟨c11,r11,rfl,e11,hR⟩:=hR.uncons;obtain ⟨c12,r12,rfl,e12,hR⟩:=hR.uncons;obtain ⟨c13,r13,rfl,e13,hR⟩:=hR.uncons;obtain ⟨c14,r14,rfl,e14,hR⟩:=hR.uncons;obtain ⟨c15,r15,rfl,e15,hR⟩:=hR.uncons;obtain ⟨c16,r16,rfl,e16,hR⟩:=hR.uncons;obtain ⟨c17,r17,rfl,e17,hR⟩:=hR.uncons;obtain ⟨c18,r18,rfl,e18,hR⟩:=hR.uncons;obtain ⟨c19,r19,rfl,e19,hR⟩:=hR.uncons;obtain ⟨c20,r20,rfl,e20,hR⟩:=hR.uncons;obtain ⟨c21,r21,rfl,e21,hR⟩:=hR.uncons;obtain ⟨c22,r22,rfl,e22,hR⟩:=hR.uncons;obtain ⟨c23,r23,rfl,e23,hR⟩:=hR.uncons;obtain ⟨c24,r24,rfl,e24,hR⟩:=hR.uncons;obtain rfl:=hR.unnil
 obtain ⟨cols,rfl,hcols⟩:=colsB f2;obtain ⟨inps,rfl,hinps⟩:=inpsB f6;obtain ⟨mks,rfl,hmks⟩:=strsB f24;obtain ⟨n0,g0⟩:=zhV f9 e9;obtain ⟨n1,g1⟩:=zhV f16 e16;obtain ⟨n2,g2⟩:=zfL f17 e17;obtain ⟨n3,g3⟩:=zhV f18 e18;obtain ⟨n4,g4⟩:=zfL f19 e19;obtain ⟨n5,g5⟩:=zfL f20 e20;obtain ⟨n6,g6⟩:=zfL f21 e21;obtain ⟨K,rfl,u0⟩:∃ y,d0=dI y∧(-9223372036854775808≤y∧y≤9223372036854775807):=by cases f0 with|i y hy=>exact ⟨y,rfl,hy⟩
 obtain ⟨N,rfl,u1⟩:∃ y,d1=dS y∧y.length≤1048576:=by cases f1 with|s y hy=>exact ⟨y,rfl,hy⟩
 obtain ⟨S0,rfl,u3⟩:∃ y,d3=dI y∧(-9223372036854775808≤y∧y≤9223372036854775807):=by cases f3 with|i y hy=>exact ⟨y,rfl,hy⟩
 obtain ⟨S1,rfl,u4⟩:∃ y,d4=dI y∧(-9223372036854775808≤y∧y≤9223372036854775807):=by cases f4 with|i y hy=>exact ⟨y,rfl,hy⟩
 obtain ⟨S2,rfl,u5⟩:∃ y,d5=dI y∧(-9223372036854775808≤y∧y≤9223372036854775807):=by cases f5 with|i y hy=>exact ⟨y,rfl,hy⟩
 obtain ⟨PK,rfl,u7⟩:∃ y,d7=dI y∧(-9223372036854775808≤y∧y≤9223372036854775807):=by cases f7 with|i y hy=>exact ⟨y,rfl,hy⟩
 obtain ⟨PN,rfl,u8⟩:∃ y,d8=dS y∧y.length≤1048576:=by cases f8 with|s y hy=>exact ⟨y,rfl,hy⟩
 obtain ⟨X0,rfl,u10⟩:∃ y,d10=dI y∧(-9223372036854775808≤y∧y≤9223372036854775807):=by cases f10 with|i y hy=>exact ⟨y,rfl,hy⟩
 obtain ⟨X1,rfl,u11⟩:∃ y,d11=dS y∧y.length≤1048576:=by cases f11 with|s y hy=>exact ⟨y,rfl,hy⟩
 obtain ⟨X2,rfl,u12⟩:∃ y,d12=dI y∧(-9223372036854775808≤y∧y≤9223372036854775807):=by cases f12 with|i y hy=>exact ⟨y,rfl,hy⟩
 obtain ⟨X3,rfl,u13⟩:∃ y,d13=dI y∧(-9223372036854775808≤y∧y≤9223372036854775807):=by cases f13 with|i y hy=>exact ⟨y,rfl,hy⟩
 obtain ⟨X4,rfl,u14⟩:∃ y,d14=dS y∧y.length≤1048576:=by cases f14 with|s y hy=>exact ⟨y,rfl,hy⟩
 obtain ⟨X5,rfl,u15⟩:∃ y,d15=dS y∧y.length≤1048576:=by cases f15 with|s y hy=>exact ⟨y,rfl,hy⟩
 obtain ⟨C,rfl,u22⟩:∃ y,d22=dI y∧(-9223372036854775808≤y∧y≤9223372036854775807):=by cases f22 with|i y hy=>exact ⟨y,rfl,hy⟩
 obtain ⟨CR,rfl,u23⟩:∃ y,d23=dS y∧y.length≤1048576:=by cases f23 with|s y hy=>exact ⟨y,rfl,hy⟩
 rw[e0.val,e1.val,e3.val,e4.val,e5.val,e7.val,e8.val,e10.val,e11.val,e12.val,e13.val,e14.val,e15.val,e22.val,e23.val];exact ⟨⟨K,N,cols,⟨S0,S1,S2⟩,inps,.mk PK PN [] (.mk X0 X1 ⟨X2,X3,X4⟩ X5 []) [] [] [] [] [] C,CR,mks⟩,c2,c6,c24,c9,c16,c17,c18,c19,c20,c21,n0,n1,n2,n3,n4,n5,n6,rfl,⟨⟨rfl,rfl,rfl,rfl,rfl,rfl,rfl⟩,e2,e6,e24,u4,u5,u1,u23,u8,hcols,hinps,hmks⟩,g0,g1,g2,g3,g4,g5,g6⟩
theorem zqm {W:World} {M:Nat} {x:Df} {s0 s1 s2 v0 v1 v2 v3 v4 v5 v6:Value} (h:DfIn W M x s0 s1 s2) (h0:IsSl v0 0) (h1:IsSl v1 0) (h2:IsSl v2 0) (h3:IsSl v3 0) (h4:IsSl v4 0) (h5:IsSl v5 0) (h6:IsSl v6 0) :
 Row W (fun _=>True) (dfD x) (dfcC x s0 s1 s2 v0 v1 v2 v3 v4 v5 v6):=by
 obtain ⟨a0,c0,rfl,_,k0,_⟩:=h0;obtain ⟨a1,c1,rfl,_,k1,_⟩:=h1;obtain ⟨a2,c2,rfl,_,k2,_⟩:=h2;obtain ⟨a3,c3,rfl,_,k3,_⟩:=h3;obtain ⟨a4,c4,rfl,_,k4,_⟩:=h4;obtain ⟨a5,c5,rfl,_,k5,_⟩:=h5;obtain ⟨a6,c6,rfl,_,k6,_⟩:=h6;have hp:Row W (fun _=>True) (plD x.plan) (plC x.plan (.slice a0 0 c0) (.slice a1 0 c1) (.slice a2 0 c2) (.slice a3 0 c3) (.slice a4 0 c4) (.slice a5 0 c5) (.slice a6 0 c6)) :=
  zb6 ⟨by rw[h.flat.xs];exact zdD 16 a0 c0 k0,by rw[h.flat.cx];exact zdD 7 a1 c1 k1,by rw[h.flat.names];exact zdD 1 a2 c2 k2,by rw[h.flat.exprs];exact zdD 7 a3 c3 k3,by rw[h.flat.on];exact zdD 2 a4 c4 k4,by rw[h.flat.aggs];exact zdD 3 a5 c5 k5,by rw[h.flat.ord];exact zdD 2 a6 c6 k6⟩
 exact zh3 ⟨h.sch,h.ins,hp,h.mks⟩
end Go.Proofs.YtonkjhmkppeagaaGreatDoor.Pz
namespace Go.Proofs.YtonkjhmkppeagaaGreatDoor.Pz
open Go.Proofs.Tryz
open Go.Lib (hid)
open Go Go.RowKit Ba Lx
theorem zm6 {l:Str} (h:(zaJ l).2.2=0):l.length≤16384:=by
 apply Classical.byContradiction;intro hn;obtain ⟨_,hs,_⟩:=zm7 h;have la:(lexS l).2.2=0:=(show (openP l).e=0 from (zgt (openP l)).back hs);unfold lexS at la;rw[if_pos (by omega)]at la;exact absurd la (by decide)
theorem zoa {x:Df} (ok:OkD x) (hf:Flat x.plan):dfG x x.plan.nm=dfT0 x:=by
 cases ok with
 | source n cs s hn h0 hc hs=>rfl
 | asset n s ins p hn hs h0 hi hp hd =>
  have hp':textQ p=p.nm:=by
   have hx:=hf.xs
   cases hp with
   | scan m h=>rw[zdr];rfl
   | _=>cases hx
  show zaC [zbl,n,scT s,sFrom,joinS [44,32] (ins.map inT),sDo,p.nm]=zaC [zbl,n,scT s,sFrom,joinS [44,32] (ins.map inT),sDo,textQ p]
  rw[hp']
 | schedule n c ms hn hc h0 hm =>
  show zaC [zaG,n,Va.showL 2 0 ⟨c.toArray⟩,za1,joinS [44,32] ms]=zaC [zaG,n,Va.quotedL c,za1,joinS [44,32] ms]
  rw[← zf1 hc];rfl
theorem zePd (sep:Str):∀ l:List Str,(joinS sep l).length≤(l.map fun s=>s.length+sep.length).sum
 | []=>yS _
 | [x]=>by show x.length≤_;simp
 | x::y::l=>by
  have ih:=zePd sep (y::l);show (x++(sep++joinS sep (y::l))).length≤_
  rw[List.map_cons,List.sum_cons,yA,yA];omega
theorem zgJ {p:Str→Bool} {f:Str→Nat}:∀ l:List Str,((l.filter p).map f).sum≤(l.map f).sum
 | []=>yG _
 | x::l=>by
  have ih:=zgJ (p:=p) (f:=f) l;rw[List.filter_cons];split
  ·rw[List.map_cons,List.map_cons,List.sum_cons,List.sum_cons];omega
  ·rw[List.map_cons,List.sum_cons];omega
theorem zey (l:List Str):(zaC l).length≤(l.map fun s=>s.length+1).sum:=yH (zePd [32] _) (zgJ l)
theorem zs9 (s:Sc) (hf:-9223372036854775808≤s.f∧s.f≤9223372036854775807) (hl:-9223372036854775808≤s.l∧s.l≤9223372036854775807):(scT s).length≤60:=by
 unfold scT;split
 ·rename_i h
  have h1:=(zem h).1;have h2:=Lib.itoa_length_le s.f hf.1 hf.2;have h3:=Lib.itoa_length_le s.l hl.1 hl.2;simp only[yA,yB,yD];omega
 ·exact yS _
theorem ztp (x:Inp) (M:Nat) (h:x.a.length≤M∧x.s.length≤M∧-9223372036854775808≤x.n∧x.n≤9223372036854775807):(inT x).length≤2*M+40:=by
 unfold inT;split
 ·rename_i hk
  have h1:=(zem hk).2;have h2:(inN x).length≤21:=by
   unfold inN;split
   ·exact Lib.itoa_length_le x.n h.2.2.1 h.2.2.2
   ·exact yS _
  refine yH (zey _) ?_;have h3:sAs.length=2:=rfl;simp only[List.map_cons,List.map_nil,List.sum_cons,List.sum_nil,h3];omega
 ·exact yS _
theorem zsq (c:Str×Int) (M:Nat) (h:c.1.length≤M):(colT c).length≤M+5:=by
 unfold colT;rw[yA,yB];split
 ·show c.1.length+(4+1)≤_;omega
 ·show c.1.length+(3+1)≤_;omega
theorem zsp (c:Str):(Va.showL 2 0 ⟨c.toArray⟩).length≤2*c.length+2:=by
 unfold Va.showL;split
 ·rw[if_neg (by decide),if_neg (by decide)];show (34::(Va.esc c++[34])).length≤_
  have:=zj1 c;rw[yB,yA];show _+1+1≤_
  omega
 ·exact yS _
theorem zsn {x:Df} {W:World} {s0 s1 s2:Value} (h:DfIn W 1048576 x s0 s1 s2) (h1:x.nm.length≤50) (h2:x.cron.length≤100) (h3:x.sch.length≤30) (h4:x.ins.length≤30) (h5:x.mks.length≤30) (h6:x.plan.nm.length≤50) :
 (dfG x x.plan.nm).length≤99000000:=by
 have hs:=zs9 x.sc h.f h.l;unfold dfG;split
 ·have hj:=zeR [44,32] (1048576+5) (x.sch.map colT) (fun t ht=>by
   obtain ⟨c,hc,rfl⟩:=List.mem_map.1 ht;exact zsq c _ (h.cols c hc))
  rw[yC]at hj;have hj2:x.sch.length*(1048576+5+([44,32]:Str).length)≤30*1048583:=Nat.mul_le_mul h3 (yG _);refine yH (zey _) ?_;have e1:zba.length=6:=rfl;simp only[List.map_cons,List.map_nil,List.sum_cons,List.sum_nil,yB,yA,yD,e1];omega
 ·split
  ·have hj:=zeR [44,32] (2*1048576+40) (x.ins.map inT) (fun t ht=>by
    obtain ⟨c,hc,rfl⟩:=List.mem_map.1 ht;exact ztp c _ (h.inps c hc))
   rw[yC]at hj;have hj2:x.ins.length*(2*1048576+40+([44,32]:Str).length)≤30*2097194:=Nat.mul_le_mul h4 (yG _);refine yH (zey _) ?_;have e1:zbl.length=5:=rfl;have e2:sFrom.length=4:=rfl;have e3:sDo.length=2:=rfl;simp only[List.map_cons,List.map_nil,List.sum_cons,List.sum_nil,e1,e2,e3];omega
  ·have hj:=zeR [44,32] 1048576 x.mks h.names;have hj2:x.mks.length*(1048576+([44,32]:Str).length)≤30*1048578:=Nat.mul_le_mul h5 (yG _);have hc:=zsp x.cron;refine yH (zey _) ?_;have e1:zaG.length=8:=rfl;have e2:za1.length=5:=rfl;simp only[List.map_cons,List.map_nil,List.sum_cons,List.sum_nil,e1,e2];omega
theorem zsk {x:Df} {W:World} {s0 s1 s2:Value} (h:DfIn W 1048576 x s0 s1 s2) (h2:x.cron.length≤100) (h3:x.sch.length≤30) (h4:x.ins.length≤30) (h5:x.mks.length≤30):DfBd x :=
 ⟨h.f,h.l,fun i hi=>(h.inps i hi).2.2,by omega,by omega,by omega,by omega⟩
set_option maxRecDepth 100000 in
set_option maxHeartbeats 3200000 in
theorem zlt (x:Pl) (hx:x.xs=[]) (ps:List Value) (W:World) (o:Nat→Prop) (h:Row W o (plD x) ps):Calls Tryz.prog 72 #[.agg ps.toArray] W (StrTo x.nm W):=by
 obtain ⟨a0,ac0,a1,ac1,a2,ac2,a3,ac3,a4,ac4,a5,ac5,a6,ac6,rfl,_⟩:=zcb h;have e0:x.xs.length=0:=by rw[hx];rfl
 rw[e0];obtain ⟨N,hN⟩:∃ N:ByteArray,(⟨x.nm.toArray⟩:ByteArray)=N:=⟨_,rfl⟩;have HS:Hid (∀ W,StrTo x.nm W=fun e w'=>e=.returned (.string N)∧Below W.heap.size W w'):=fun W=>by unfold StrTo;rw[hN]
 rw[HS.out];unfold plC;rw[hN];clear h e0 hx HS;obtain ⟨k,hk⟩:∃ k,x.k=k:=⟨_,rfl⟩;rw[hk];have H:=hid (St.start (S:=fun _=>False) W);clear hk hN;by_cases h1:k=1
 ·subst h1;go_enter func72,ntmps72
  go_wp2_with (first|(refine St.w_box (vs:=[.int .i64 1,.string N,.slice a0 0 ac0,.int .i64 x.cond.k,.string ⟨x.cond.nm.toArray⟩,.int .i64 x.cond.v.k,.int .i64 x.cond.v.n,.string ⟨x.cond.v.t.toArray⟩,.string ⟨x.cond.op.toArray⟩,.slice a1 x.cond.xs.length ac1,.slice a2 x.names.length ac2,.slice a3 x.exprs.length ac3,.slice a4 x.on.length ac4,.slice a5 x.aggs.length ac5,.slice a6 x.ord.length ac6,.int .i64 x.cnt]) H.out (by rfl) rfl rfl rfl ?_;intro wn X _ _ H2;replace H:=hid H2;clear H2)|(refine St.w_load1 (ty:=3) H.out (by rfl) rfl rfl 0 rfl rfl uInt_ ?_)|(refine St.w_load1 (ty:=9) H.out (by rfl) rfl rfl 0 rfl rfl uStr_ ?_))
  go_ret
  exact ⟨rfl,zac H.out⟩
 ·have hk:(k == 1)=false:=by rw[beq_eq_false_iff_ne];exact h1
  clear h1;go_enter func72,ntmps72
  go_wp2_with (first|(refine St.w_box (vs:=[.int .i64 k,.string N,.slice a0 0 ac0,.int .i64 x.cond.k,.string ⟨x.cond.nm.toArray⟩,.int .i64 x.cond.v.k,.int .i64 x.cond.v.n,.string ⟨x.cond.v.t.toArray⟩,.string ⟨x.cond.op.toArray⟩,.slice a1 x.cond.xs.length ac1,.slice a2 x.names.length ac2,.slice a3 x.exprs.length ac3,.slice a4 x.on.length ac4,.slice a5 x.aggs.length ac5,.slice a6 x.ord.length ac6,.int .i64 x.cnt]) H.out (by rfl) rfl rfl rfl ?_;intro wn X _ _ H2;replace H:=hid H2;clear H2)|(refine St.w_load1 (ty:=3) H.out (by rfl) rfl rfl 0 rfl rfl uInt_ ?_)|(refine St.w_load1 (ty:=9) H.out (by rfl) rfl rfl 0 rfl rfl uStr_ ?_)|(refine St.w_load1 (ty:=52) H.out (by rfl) rfl rfl 0 rfl rfl uSPl_ ?_))
  go_ret
  exact ⟨rfl,zac H.out⟩
end Go.Proofs.YtonkjhmkppeagaaGreatDoor.Pz
namespace Go.Proofs.YtonkjhmkppeagaaGreatDoor.Pz
open Go.Proofs.Tryz
open Go.Lib (hid)
open Go.RowKit Go Go.Sort Ba Lx
def awX:Ex:=zaj [42] (zaj [43] (zax [97]) (zax [98])) (zax [99])
theorem zmc:(zbR [40,97,43,98,41,42,40,99,41]).2.2=0:=by kernel_rfl
theorem zsr:(zbR [40,97,43,98,41,42,40,99,41]).1=awX:=by kernel_rfl
theorem zss:textE awX=[40,97,32,43,32,98,41,32,42,32,99]:=by kernel_rfl
theorem zte {s:ByteArray} (hl:s.data.toList.length≤8192) (h:(zbR s.data.toList).2.2=0):∃ (x:Ex) (at0:Nat),zbR s.data.toList=(x,at0,0)∧OkE x∧(textE x).length≤16384∧showE x=(textE x,0)∧zbR (textE x)=(x,(textE x).length,0):=by
 have h2:=zi4 h;have h3:=zi5 hl h;obtain ⟨r,hr⟩:∃ r,zbR s.data.toList=r:=⟨_,rfl⟩;rw[hr]at h h2 h3;obtain ⟨x,a,e⟩:=r;obtain ⟨k1,k2,k3,k4⟩:=h2;simp only at h h3 k1 k3;subst h;exact ⟨x,a,hr,k1,by omega,zpf h3,h3⟩
theorem zry (x:Ex) (T:ByteArray) (hT:(⟨(textE x).toArray⟩:ByteArray)=T) (hx:OkE x) (hs:showE x=(textE x,0)) (hlen:(textE x).length≤16384) (sa:Option Addr) (ca:Nat) (w:World) (ok:Nat→Prop) (hA:XArgs w ok (.slice sa x.xs.length ca) x.xs) (hE:EnvX w) :
 Calls Tryz.prog 16 #[exV x (.slice sa x.xs.length ca)] w fun e w'=>e=.returned (.tuple #[.string T,.int .i64 0])∧Below w.heap.size w w':=by
 have:=zmy x sa ca w ok hA hE (zti x hx) (yH (m:=1000000) (by omega) (zkh x));unfold zjj at this;rw[hs,hT]at this;exact this
set_option maxRecDepth 100000 in
set_option maxHeartbeats 3200000 in
theorem zoF (w:World) (hE:EnvX w):Calls Tryz.prog 14 #[] w fun e w'=>e=.returned (.bool true)∧Below w.heap.size w w':=by
 obtain ⟨x,at0,e1,hx,hlen,hs,_⟩:=zte (s:=⟨#[40,97,43,98,41,42,40,99,41]⟩) (by decide) zmc;have hxa:x=awX:=by
  have:=zsr;rw[show ([40,97,43,98,41,42,40,99,41]:Str)=(⟨#[40,97,43,98,41,42,40,99,41]⟩:ByteArray).data.toList from rfl,e1]at this;exact this
 have hT:(⟨(textE x).toArray⟩:ByteArray)=⟨#[40,97,32,43,32,98,41,32,42,32,99]⟩:=by rw[hxa,zss]
 have hP:=zkX ⟨#[40,97,43,98,41,42,40,99,41]⟩ w hE.l;rw[e1]at hP;have HP:=hid hP;have HS:=hid (fun sa ca W (ok:Nat→Prop) (hA:XArgs W ok (.slice sa x.xs.length ca) x.xs) (hb:Below w.heap.size w W)=>zry x _ hT hx hs hlen sa ca W ok hA (hE.below hb));clear hP hxa hT hs hlen hx e1;go_enter func14,ntmps14
 go_wp2_with (first|(go_at_call 15;refine HP.out.mono ?_;rintro e w1 ⟨ya,yc,rfl,hY,hb1⟩;have bwX:=(Below.refl w1.heap.size w1).alloc (yG _) (.cells #[.int .i64 x.k,.string ⟨x.nm.toArray⟩,.int .i64 x.v.k,.int .i64 x.v.n,.string ⟨x.v.t.toArray⟩,.string ⟨x.op.toArray⟩,.slice ya x.xs.length yc] 27))|(go_at_call 16;refine (HS.out ya yc _ _ (hY.below bwX) (two hb1 bwX)).mono ?_;rintro e w2 ⟨rfl,hb2⟩))
 go_ret
 exact ⟨rfl,two (two hb1 bwX) hb2⟩
end Go.Proofs.YtonkjhmkppeagaaGreatDoor.Pz
