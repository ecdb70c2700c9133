/- Walks: show.def of any definition. -/
import Derived.Test.YtonkjhmkppeagaaGreatDoorVShH
set_option linter.unusedVariables false
set_option linter.unusedSimpArgs false
namespace Go.Proofs.YtonkjhmkppeagaaGreatDoor.Pz
open Go.Proofs.Tryz
open Go.RowKit Go Go.Sort Ba Lx
def dfG (d:Df) (pt:Str):Str :=
 if d.k=1 then zav [zbd,d.nm,40::(joinS [44,32] (d.sch.map colT)++[41]),scT d.sc]
 else if d.k=2 then zav [zbr,d.nm,scT d.sc,sFrom,joinS [44,32] (d.ins.map inT),sDo,pt]
 else zav [zaG,d.nm,Va.showL 2 0 ⟨d.cron.toArray⟩,za0,joinS [44,32] d.mks]
structure DfBd (d:Df):Prop where
 f:-9223372036854775808≤d.sc.f∧d.sc.f≤9223372036854775807
 l:-9223372036854775808≤d.sc.l∧d.sc.l≤9223372036854775807
 n:∀ x∈d.ins,-9223372036854775808≤x.n∧x.n≤9223372036854775807
 c:d.cron.length≤9223372036854775807
 n1:d.sch.length≤600000
 n2:d.ins.length≤600000
 n3:d.mks.length≤600000
set_option maxRecDepth 100000 in
theorem zoo (d:Df) (pt:Str) (hb:DfBd d) (hq:d.k=2→∀ (ps:List Value) (W:World) (o:Nat→Prop),Row W o (plD d.plan) ps→EnvX W→Calls Tryz.prog 72 #[.agg ps.toArray] W (StrTo pt W)) (hlen:(dfG d pt).length≤10000000)
 (cs:List Value) (W:World) (ok:Nat→Prop) (hA:Row W ok (dfD d) cs) (hE:EnvX W):Calls Tryz.prog 74 #[.agg cs.toArray] W (StrTo (dfG d pt++[59,10]) W):=by
 obtain ⟨s0,s1,s2,ps,rfl,h⟩:=znt hA;obtain ⟨p0,p1,p2,p3,p4,p5,p6,p7,p8,p9,pa,pb,pc,pd,pe,pf,rfl⟩:=zmF (Row.len16 h.plan);clear hA;obtain ⟨b1,b2,b3,b4,b5,b6,b7⟩:=hb;obtain ⟨k,nm,sch,⟨sk,sf,sl⟩,ins,plan,cron,mks⟩:=d;simp only at *
 by_cases h1:k=1
 ·subst h1;have e:dfG ⟨1,nm,sch,⟨sk,sf,sl⟩,ins,plan,cron,mks⟩ pt=zav [zbd,nm,40::(joinS [44,32] (sch.map colT)++[41]),scT ⟨sk,sf,sl⟩]:=rfl;rw[e]at hlen ⊢;obtain ⟨ca,cc,rfl,_⟩:=h.sch.len;have hs:=h.sch;rw[List.length_map]at hs ⊢;exact zsb nm sch sk sf sl b1.1 b1.2 b2.1 b2.2 ca cc s1 p0 p1 p2 p3 p4 p5 p6 p7 p8 p9 pa pb pc pd pe pf (.string ⟨cron.toArray⟩) s2 W hE ok hs b5 (by omega)
 by_cases h2:k=2
 ·subst h2;have e:dfG ⟨2,nm,sch,⟨sk,sf,sl⟩,ins,plan,cron,mks⟩ pt=zav [zbr,nm,scT ⟨sk,sf,sl⟩,sFrom,joinS [44,32] (ins.map inT),sDo,pt]:=rfl;rw[e]at hlen ⊢;obtain ⟨ca,cc,rfl,_⟩:=h.ins.len;have hs:=h.ins;rw[List.length_map]at hs ⊢;exact zsa nm ins pt sk sf sl b1.1 b1.2 b2.1 b2.2 ca cc s0 p0 p1 p2 p3 p4 p5 p6 p7 p8 p9 pa pb pc pd pe pf (.string ⟨cron.toArray⟩) s2 W hE ok hs b3 b6 (fun W' hW=>hq rfl [p0,p1,p2,p3,p4,p5,p6,p7,p8,p9,pa,pb,pc,pd,pe,pf] W' ok (h.plan.kept (S:=fun _=>False) (Kept.of_below hW) (fun _ _ _ x=>x)) (hE.below hW)) (by omega)
 ·have e:dfG ⟨k,nm,sch,⟨sk,sf,sl⟩,ins,plan,cron,mks⟩ pt=zav [zaG,nm,Va.showL 2 0 ⟨cron.toArray⟩,za0,joinS [44,32] mks]:=by unfold dfG;rw[if_neg h1,if_neg h2]
  rw[e]at hlen ⊢;obtain ⟨ca,cc,rfl,_⟩:=h.mks.len;have hs:=h.mks;rw[List.length_map]at hs ⊢;exact zr9 k (by rw[beq_eq_false_iff_ne];exact h1) (by rw[beq_eq_false_iff_ne];exact h2) nm ⟨cron.toArray⟩ (by rw[sz_mk];exact b4) mks sk sf sl ca cc s0 s1 p0 p1 p2 p3 p4 p5 p6 p7 p8 p9 pa pb pc pd pe pf W hE ok hs b7 (by omega)
theorem okD_G {d:Df} (h:OkD d):dfG d (textQ d.plan)=dfT0 d:=by
 cases h with
 | source n cs s hn h0 hc hs=>rfl
 | asset n s ins p hn hs h0 hi hp hd=>rfl
 | schedule n c ms hn hc h0 hm =>
  show zav [zaG,n,Va.showL 2 0 ⟨c.toArray⟩,za0,joinS [44,32] ms]=zav [zaG,n,Va.quotedL c,za0,joinS [44,32] ms]
  rw[← zfL hc];rfl
theorem zsj {d:Df} (h:OkD d) (hl:(dfT0 d).length≤1000000):DfBd d:=by
 cases h with
 | source n cs s hn h0 hc hs =>
  have h1:=Nat.le_trans (za5 (l:=[zbd,n,40::(joinS [44,32] (cs.map colT)++[41]),scT s]) (a:=40::(joinS [44,32] (cs.map colT)++[41])) (by simp)) hl;have h2:=zb7 (cs.map colT);rw[List.length_map]at h2;simp only[List.length_cons,List.length_append]at h1;exact ⟨⟨by have:=hs.2.1.1;simp only;omega,hs.2.1.2⟩,⟨by have:=hs.2.2.1;simp only;omega,hs.2.2.2⟩,fun x hx=>(by cases hx),Nat.zero_le _,by simp only;omega,Nat.zero_le _,Nat.zero_le _⟩
 | asset n s ins p hn hs h0 hi hp hd =>
  have h1:=Nat.le_trans (za5 (l:=[zbr,n,scT s,sFrom,joinS [44,32] (ins.map inT),sDo,textQ p]) (a:=joinS [44,32] (ins.map inT)) (by simp)) hl;have h2:=zb7 (ins.map inT);rw[List.length_map]at h2;refine ⟨⟨by have:=hs.2.1.1;simp only;omega,hs.2.1.2⟩,⟨by have:=hs.2.2.1;simp only;omega,hs.2.2.2⟩,fun x hx=>?_,Nat.zero_le _,Nat.zero_le _,by simp only;omega,Nat.zero_le _⟩;obtain ⟨_,_,_,i1,i2,i3⟩:=hi x hx;by_cases e2:x.k=2
  ·have:=i1 e2;omega
  by_cases e3:x.k=3
  ·have:=i2 e3;omega
  ·have:=i3 e2 e3;omega
 | schedule n c ms hn hc h0 hm =>
  have h1:=Nat.le_trans (za5 (l:=[zaG,n,Va.quotedL c,za0,joinS [44,32] ms]) (a:=joinS [44,32] ms) (by simp)) hl;have h2:=zb7 ms;have h3:=Nat.le_trans (za5 (l:=[zaG,n,Va.quotedL c,za0,joinS [44,32] ms]) (a:=Va.quotedL c) (by simp)) hl;refine ⟨(by decide:-9223372036854775808≤(0:Int)∧(0:Int)≤9223372036854775807),(by decide:-9223372036854775808≤(0:Int)∧(0:Int)≤9223372036854775807),fun x hx=>(by cases hx),?_,Nat.zero_le _,Nat.zero_le _,by simp only;omega⟩;rcases hc with h|h|h|h
  all_goals first|(have:=h.2.2.1;simp only at *;omega)|(have:=h.1;simp at this)
theorem zlK {d:Df} (h:OkD d) (hl:(dfT d).length≤1000000) (cs:List Value) (W:World) (ok:Nat→Prop) (hA:Row W ok (dfD d) cs) (hE:EnvX W):Calls Tryz.prog 74 #[.agg cs.toArray] W (StrTo (dfT d) W):=by
 have hl0:(dfT0 d).length≤1000000:=by unfold dfT at hl;rw[List.length_append]at hl;omega
 have:=zoo d (textQ d.plan) (zsj h hl0) (fun hk ps W o hR hE=>?_) (by rw[okD_G h];omega) cs W ok hA hE
 ·rw[okD_G h]at this;exact this
 ·obtain ⟨a0,ac0,a1,ac1,a2,ac2,a3,ac3,a4,ac4,a5,ac5,a6,ac6,e,_,hp⟩:=zqH hR;rw[e];have hk:OkQ d.plan∧(textQ d.plan).length≤1000000:=by
   cases h with
   | source=>exact absurd (show (1:Int)=2 from hk) (by decide)
   | asset n s ins p hn hs h0 hi hp2 hd=>exact ⟨hp2,Nat.le_trans (za5 (l:=[zbr,n,scT s,sFrom,joinS [44,32] (ins.map inT),sDo,textQ p]) (a:=textQ p) (by simp)) hl0⟩
   | schedule=>exact absurd (show (3:Int)=2 from hk) (by decide)
  exact zl5 d.plan a0 a1 a2 a3 a4 a5 a6 ac0 ac1 ac2 ac3 ac4 ac5 ac6 W o hp hE hk.1 hk.2
end Go.Proofs.YtonkjhmkppeagaaGreatDoor.Pz
