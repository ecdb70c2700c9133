/- The tree of a plan: folds, its tokens, its text, how deep; what is well formed. No program in sight. The plain law of the reader: a plan's own tokens are read as that plan, or lie too deep. No program in sight. The plain law of a plan's text: it is cut into the plan's tokens. No program in sight. The plain law of the reader of queries: what it reads is well formed, no deeper than it may be, its text not much longer than what it was read from. No program in sight. The plain law of queries: what is read has a text that tells it again; put in brackets it is read as the same, or lies too deep. -/
import Derived.Test.YtonkjhmkppeagaaGreatDoorWTxB
set_option linter.unusedVariables false
namespace Go.Proofs.YtonkjhmkppeagaaGreatDoor.Pz
open Go.Proofs.Tryz
open Go Go.RowKit Lx
theorem Pl.ind {P:Pl→Prop} (h:∀ p,(∀ a∈p.xs,P a)→P p):∀ p,P p
 | .mk k nm xs c n e o g r t=>h (.mk k nm xs c n e o g r t) fun a ha=>Pl.ind h a
termination_by x=>SizeOf.sizeOf x
decreasing_by
 have:=List.sizeOf_lt_of_mem (show a∈xs from ha);simp only[Pl.mk.sizeOf_spec];omega
def foldQ {α:Type} (F:Pl→List (Pl×α)→α):Pl→α
 | .mk k nm xs c n e o g r t=>F (.mk k nm xs c n e o g r t) (xs.attach.map fun a=>(a.1,foldQ F a.1))
termination_by x=>SizeOf.sizeOf x
decreasing_by
 have:=List.sizeOf_lt_of_mem a.2;simp only[Pl.mk.sizeOf_spec];omega
theorem zcD {α:Type} (F:Pl→List (Pl×α)→α) (p:Pl):foldQ F p=F p (p.xs.map fun a=>(a,foldQ F a)):=by
 cases p with
 | mk k nm xs c n e o g r t =>
  rw[foldQ];congr 1
  exact List.attach_map_val (f:=fun a:Pl=>(a,foldQ F a))
def zaC (l:List Str):Str:=joinS [32] (l.filter fun s=>decide (s≠[]))
def partT (b:Pl×Str):Str:=if b.1.k=1 then b.1.nm else 40::(b.2++[41])
def secT (r:List (Pl×Str)):Str:=match r with|[]=>[]|b::_=>partT b
def pairT (o:Str×Str):Str:=o.1++([32,61,32]++o.2)
def aggT (a:Str×Str×Str):Str:=a.1++(40::(a.2.1++([41,32,97,115,32]++a.2.2)))
def keepT (x:Ex) (n:Str):Str:=textE x++([32,97,115,32]++n)
def keptL:List Ex→List Str→List Str
 | [],_=>[]
 | x::r,ns=>keepT x (ns.headD [])::keptL r ns.tail
def ordT (o:Str×Bool):Str:=if o.2=true then o.1++[32,100,111,119,110] else o.1
def stepT (p:Pl) (second:Str):Str :=
 if p.k=2 then zaC [zbK,textE p.cond]
 else if p.k=3 then zaC [sKeep,joinS [44,32] (keptL p.exprs p.names)]
 else if p.k=4 then zaC [sJoin,second,sOn,joinS [44,32] (p.on.map pairT)]
 else if p.k=5 then zaC [sLeft,second,sOn,joinS [44,32] (p.on.map pairT)]
 else if p.k=6 then zaC [zbM,joinS [44,32] p.names,[58],joinS [44,32] (p.aggs.map aggT)]
 else if p.k=7 then zaC [zbL,second]
 else if p.k=8 then zaE
 else zaC [zbu,Lib.itoa p.cnt,if p.ord=[] then [] else sBy,joinS [44,32] (p.ord.map ordT)]
def zmr (p:Pl) (l:List (Pl×Str)):Str :=
 if p.k=1 then p.nm else match l with|[]=>p.nm|a::r=>a.2++([32,124,32]++stepT p (secT r))
def textQ:Pl→Str:=foldQ zmr
def partK (b:Pl×List Tk):List Tk:=if b.1.k=1 then [(1,b.1.nm,0)] else (4,[40],0)::(b.2++[(4,[41],0)])
def secK (r:List (Pl×List Tk)):List Tk:=match r with|[]=>[]|b::_=>partK b
def pairK (o:Str×Str):List Tk:=[(1,o.1,0),(4,[61],0),(1,o.2,0)]
def colK (c:Str):List Tk:=if c=[] then [] else [(1,c,0)]
def aggK (a:Str×Str×Str):List Tk:=(1,a.1,0)::(4,[40],0)::(colK a.2.1++[(4,[41],0),(1,sAs,0),(1,a.2.2,0)])
def keepK (x:Ex) (n:Str):List Tk:=tkE x++[(1,sAs,0),(1,n,0)]
def keptK:List Ex→List Str→List (List Tk)
 | [],_=>[]
 | x::r,ns=>keepK x (ns.headD [])::keptK r ns.tail
def ordK (o:Str×Bool):List Tk:=(1,o.1,0)::(if o.2=true then [(1,sDown,0)] else [])
def byK (os:List (Str×Bool)):List Tk:=if os=[] then [] else (1,sBy,0)::joinK (os.map ordK)
def zcM (p:Pl) (second:List Tk):List Tk :=
 if p.k=2 then (1,zbK,0)::tkE p.cond
 else if p.k=3 then (1,sKeep,0)::joinK (keptK p.exprs p.names)
 else if p.k=4 then (1,sJoin,0)::(second++(1,sOn,0)::joinK (p.on.map pairK))
 else if p.k=5 then (1,sLeft,0)::(second++(1,sOn,0)::joinK (p.on.map pairK))
 else if p.k=6 then (1,zbM,0)::(joinK (p.names.map fun n=>[(1,n,0)])++(4,[58],0)::joinK (p.aggs.map aggK))
 else if p.k=7 then (1,zbL,0)::second
 else if p.k=8 then [(1,zaE,0)]
 else (1,zbu,0)::(2,[],p.cnt)::byK p.ord
def tkQF (p:Pl) (l:List (Pl×List Tk)):List Tk :=
 if p.k=1 then [(1,p.nm,0)] else match l with|[]=>[(1,p.nm,0)]|a::r=>a.2++((4,[124],0)::zcM p (secK r))
def tkQ:Pl→List Tk:=foldQ tkQF
def partN (b:Pl×Nat):Nat:=if b.1.k=1 then 0 else b.2+1
def secN (r:List (Pl×Nat)):Nat:=match r with|[]=>0|b::_=>partN b
def zot (p:Pl) (l:List (Pl×Nat)):Nat:=if p.k=1 then 0 else match l with|[]=>0|a::r=>max a.2 (secN r)
def deepQ:Pl→Nat:=foldQ zot
def zao (n:Str):Prop:=TokOk ⟨1,n,0,0⟩
def ExOk (x:Ex):Prop:=OkE x∧deepE x+1≤32
inductive OkQ:Pl→Prop
 | scan (n:Str) (h:zao n):OkQ (scanL n)
 | where_ (a:Pl) (x:Ex) (ha:OkQ a) (hx:ExOk x):OkQ (.mk 2 [] [a] x [] [] [] [] [] 0)
 | keep (a:Pl) (ns:List Str) (xs:List Ex) (ha:OkQ a) (hl:xs.length=ns.length) (h0:xs≠[]) (hx:∀ x∈xs,ExOk x) (hn:∀ n∈ns,zao n):OkQ (.mk 3 [] [a] zEx ns xs [] [] [] 0)
 | join (k:Int) (a b:Pl) (on:List (Str×Str)) (hk:k=4∨k=5) (ha:OkQ a) (hb:OkQ b) (h0:on≠[]) (ho:∀ o∈on,zao o.1∧zao o.2):OkQ (.mk k [] [a,b] zEx [] [] on [] [] 0)
 | group (a:Pl) (ns:List Str) (gs:List (Str×Str×Str)) (ha:OkQ a) (hn:∀ n∈ns,zao n) (hg:∀ g∈gs,g.1∈zag∧(g.2.1=[]∨zao g.2.1)∧zao g.2.2):OkQ (.mk 6 [] [a] zEx ns [] [] gs [] 0)
 | union (a b:Pl) (ha:OkQ a) (hb:OkQ b):OkQ (.mk 7 [] [a,b] zEx [] [] [] [] [] 0)
 | dist (a:Pl) (ha:OkQ a):OkQ (.mk 8 [] [a] zEx [] [] [] [] [] 0)
 | first (a:Pl) (n:Int) (os:List (Str×Bool)) (ha:OkQ a) (h0:0≤n) (h1:n≤9223372036854775807) (ho:∀ o∈os,zao o.1):OkQ (.mk 9 [] [a] zEx [] [] [] [] os n)
section
variable (k:Int) (a b:Pl) (c:Ex) (n:List Str) (e:List Ex) (o:List (Str×Str)) (g:List (Str×Str×Str)) (r:List (Str×Bool)) (t:Int)
theorem zdr (m:Str):textQ (scanL m)=m:=by unfold textQ;rw[zcD];rfl
theorem zfB (m:Str):tkQ (scanL m)=[(1,m,0)]:=by unfold tkQ;rw[zcD];rfl
theorem zdw (m:Str):deepQ (scanL m)=0:=by unfold deepQ;rw[zcD];rfl
theorem zbY (hk:k≠1):textQ (.mk k [] [a] c n e o g r t)=textQ a++([32,124,32]++stepT (.mk k [] [a] c n e o g r t) []):=by
 unfold textQ;rw[zcD];unfold zmr;rw[if_neg (show ¬ (Pl.mk k [] [a] c n e o g r t).k=1 from hk)];rfl
theorem zb7 (hk:k≠1):tkQ (.mk k [] [a] c n e o g r t)=tkQ a++((4,[124],0)::zcM (.mk k [] [a] c n e o g r t) []):=by
 unfold tkQ;rw[zcD];unfold tkQF;rw[if_neg (show ¬ (Pl.mk k [] [a] c n e o g r t).k=1 from hk)];rfl
theorem zbd (hk:k≠1):deepQ (.mk k [] [a] c n e o g r t)=deepQ a:=by
 unfold deepQ;rw[zcD];unfold zot;rw[if_neg (show ¬ (Pl.mk k [] [a] c n e o g r t).k=1 from hk)];exact Nat.max_eq_left (yS _)
theorem zdq (hk:k≠1):textQ (.mk k [] [a,b] c n e o g r t)=textQ a++([32,124,32]++stepT (.mk k [] [a,b] c n e o g r t) (partT (b,textQ b))):=by
 unfold textQ;rw[zcD];unfold zmr;rw[if_neg (show ¬ (Pl.mk k [] [a,b] c n e o g r t).k=1 from hk)];rfl
theorem zdC (hk:k≠1):tkQ (.mk k [] [a,b] c n e o g r t)=tkQ a++((4,[124],0)::zcM (.mk k [] [a,b] c n e o g r t) (partK (b,tkQ b))):=by
 unfold tkQ;rw[zcD];unfold tkQF;rw[if_neg (show ¬ (Pl.mk k [] [a,b] c n e o g r t).k=1 from hk)];rfl
theorem zcq (hk:k≠1):deepQ (.mk k [] [a,b] c n e o g r t)=max (deepQ a) (partN (b,deepQ b)):=by
 unfold deepQ;rw[zcD];unfold zot;rw[if_neg (show ¬ (Pl.mk k [] [a,b] c n e o g r t).k=1 from hk)];rfl
end
theorem OkQ.scan_of {b:Pl} (h:OkQ b) (hk:b.k=1):∃ n,zao n∧b=scanL n:=by
 cases h with
 | scan n h=>exact ⟨n,h,rfl⟩
 | join k a b on hk' ha hb h0 ho =>
  exfalso
  have hk2:k=1:=hk;omega
 | where_ a x ha hx=>exact absurd (show (2:Int)=1 from hk) (by decide)
 | keep a ns xs ha hl h0 hx hn=>exact absurd (show (3:Int)=1 from hk) (by decide)
 | group a ns gs ha hn hg=>exact absurd (show (6:Int)=1 from hk) (by decide)
 | union a b ha hb=>exact absurd (show (7:Int)=1 from hk) (by decide)
 | dist a ha=>exact absurd (show (8:Int)=1 from hk) (by decide)
 | first a n os ha h0 h1 ho=>exact absurd (show (9:Int)=1 from hk) (by decide)
def Sg (l:List Str) (ts:List Tk):Prop:=∀ h r,ts=h::r→h.1=4∧h.2.1∈l
theorem Sg.nil (l:List Str):Sg l []:=fun h r e=>by cases e
theorem Sg.cons {l:List Str} {x:Str} (hx:x∈l) (r:List Tk):Sg l ((4,x,0)::r):=fun h r' e=>by cases e;exact ⟨rfl,hx⟩
theorem Sg.no {l:List Str} {ts:List Tk} {x:Str} (h:Sg l ts) (hx:x∉l):isK ts x=false:=by
 cases ts with
 | nil=>rfl
 | cons t r =>
  show decide ((t.1=1∨t.1=4)∧t.2.1=x)=false
  rw[yN];rintro ⟨_,rfl⟩;exact hx (h t r rfl).2
theorem Sg.mono {l l':List Str} {ts:List Tk} (h:Sg l ts) (hl:∀ x∈l,x∈l'):Sg l' ts:=fun t r e=>⟨(h t r e).1,hl _ (h t r e).2⟩
theorem Sg.stop {l:List Str} {ts:List Tk} (h:Sg l ts) (hl:∀ x∈l,zaH x=0∧x≠[40]):stopK 1 ts:=fun o ho=>by
 cases ts with
 | nil=>exact absurd ho (by show ¬ false=true;decide)
 | cons t r =>
  have ho':decide ((t.1=1∨t.1=4)∧t.2.1=o)=true:=ho;rw[yL]at ho';obtain ⟨_,rfl⟩:=ho';obtain ⟨h1,h2⟩:=hl _ (h t r rfl).2;exact ⟨by omega,h2⟩
theorem Sg.kind {l:List Str} {ts:List Tk} {s:Ps} (h:Sg l ts) (a:At s ts):(peekP s).k≠1:=by
 cases ts with
 | nil=>rw[a.nilK];decide
 | cons t r =>
  have e:(peekP s).k=t.1:=congrArg (·.1) a.peek.1;rw[e,(h t r rfl).1];decide
theorem zb8 {s:Ps} {n:Str} {m:Int} {rest:List Tk} (a:At s ((1,n,m)::rest)):nameP s=(n,advP s)∧At (advP s) rest:=by
 obtain ⟨p1,p2,p3⟩:=a.peek;have k1:(peekP s).k=1:=congrArg (·.1) p1;have t1:(peekP s).t=n:=congrArg (·.2.1) p1;refine ⟨?_,p2⟩;unfold nameP zae;rw[if_pos k1];simp only[t1]
theorem zgT {s:Ps} {t:Str} {m:Int} {rest:List Tk} (a:At s ((2,t,m)::rest)):(zae 2 s).1.n=m∧(zae 2 s).2=advP s∧At (advP s) rest:=by
 obtain ⟨p1,p2,p3⟩:=a.peek;have k1:(peekP s).k=2:=congrArg (·.1) p1;have n1:(peekP s).n=m:=congrArg (·.2.2) p1;unfold zae;rw[if_pos k1];exact ⟨n1,rfl,p2⟩
theorem zre {s:Ps} {t:Str} {m:Int} {rest:List Tk} (a:At s ((3,t,m)::rest)):(zae 3 s).1.t=t∧(zae 3 s).2=advP s∧At (advP s) rest:=by
 obtain ⟨p1,p2,p3⟩:=a.peek;have k1:(peekP s).k=3:=congrArg (·.1) p1;have n1:(peekP s).t=t:=congrArg (·.2.1) p1;unfold zae;rw[if_pos k1];exact ⟨n1,rfl,p2⟩
theorem zbx {s:Ps} {k:Int} {x:Str} {m:Int} {rest:List Tk} (hk:k=1∨k=4) (a:At s ((k,x,m)::rest)):wantP x s=advP s∧At (advP s) rest:=by
 refine ⟨?_,a.peek.2.1⟩;unfold wantP;rw[if_pos];rw[a.is,zc6,yL];exact ⟨hk,rfl⟩
theorem is_at {s:Ps} {k:Int} {x:Str} {m:Int} {rest:List Tk} (hk:k=1∨k=4) (a:At s ((k,x,m)::rest)) (y:Str):isP s y=decide (x=y):=by
 rw[a.is,zc6];by_cases h:x=y
 ·rw[decide_eq_true ⟨hk,h⟩,decide_eq_true h]
 ·rw[yN (fun e=>h e.2),yN h]
def zeA (w:Str):List Str→Option Nat
 | []=>none
 | o::r=>if w=o then some 0 else (zeA w r).map (·+1)
theorem zhe {s:Ps} {k:Int} {x:Str} {m:Int} {rest:List Tk} (hk:k=1∨k=4) (a:At s ((k,x,m)::rest)):∀ ws,zaD ws s=zeA x ws
 | []=>rfl
 | o::r=>by
  unfold zaD zeA;rw[is_at hk a,zhe hk a r];by_cases h:x=o
  ·rw[if_pos (decide_eq_true h),if_pos h]
  ·rw[if_neg (by rw[yN h];decide),if_neg h]
theorem zdM {s:Ps} {k:Int} {x:Str} {m:Int} {rest:List Tk} {ws:List Str} {j:Nat} (hk:k=1∨k=4) (a:At s ((k,x,m)::rest)) (hj:zeA x ws=some j):oneP ws s=(1+j,advP s)∧At (advP s) rest:=by
 refine ⟨?_,a.peek.2.1⟩;unfold oneP;rw[zch,zhe hk a,hj]
theorem zie:∀ {ws:List Str} {x:Str},x∈ws→∃ j,zeA x ws=some j∧ws.getD j []=x
 | o::r,x,h=>by
  unfold zeA;by_cases e:x=o
  ·rw[if_pos e];exact ⟨0,rfl,e.symm⟩
  ·rw[if_neg e];obtain ⟨j,h1,h2⟩:=zie (ws:=r) (x:=x) (by rcases List.mem_cons.1 h with h|h;exact absurd h e;exact h);rw[h1];exact ⟨j+1,rfl,by simpa using h2⟩
theorem zeh {α β:Type} {f:α→Ps→α×Ps} {tk:β→List Tk} {put:α→β→α} {stop:List Tk→Prop} {item:β→Prop}
 (hf:∀ x a s r,item x→At s (tk x++r)→stop r→f a s=(put a x,advN s (tk x).length)) (hc:∀ r,stop ((4,[44],0)::r)) {rest:List Tk} (hr:stop rest) (hn:isK rest [44]=false) :
 ∀ (xs:List β) (x0:β) (fuel:Nat) (a:α) (s:Ps),(∀ x∈x0::xs,item x)→At s (joinK ((x0::xs).map tk)++rest)→s.T.length<fuel+s.i→
  zaQ f fuel (f a s).1 (f a s).2=((x0::xs).foldl put a,advN s (joinK ((x0::xs).map tk)).length)
 | [],x0,fuel,a,s,hi,h,hfu=>by
  change At s (tk x0++rest) at h
  rw[hf x0 a s rest (hi x0 (by simp)) h hr];simp only;rw[zdG (by rw[h.app.is];exact hn)];rfl
 | x1::xs,x0,fuel,a,s,hi,h,hfu=>by
  change At s ((tk x0++((4,[44],0)::joinK ((x1::xs).map tk)))++rest) at h
  rw[yM,List.cons_append]at h;rw[hf x0 a s _ (hi x0 (by simp)) h (hc _)];simp only;have a2:=h.app;obtain ⟨p1,p2,p3⟩:=a2.peek;have p3':s.i+(tk x0).length<s.T.length:=p3;have ih:=zeh hf hc hr hn xs x1 (fuel-1) (put a x0) _ (fun x hx=>hi x (yJ _ hx)) p2 (by
   show s.T.length<fuel-1+(s.i+(tk x0).length+1)
   omega)
  obtain ⟨fu,rfl⟩:∃ fu,fuel=fu+1:=⟨fuel-1,by omega⟩;rw[zcI (by rw[a2.is,zc6];decide)];rw[show fu+1-1=fu from rfl]at ih;rw[ih,zaB,zap,zap];refine Prod.ext rfl ?_;show advN s _=advN s _
  congr 1
  show (tk x0).length+(1+(joinK ((x1::xs).map tk)).length)=(tk x0++((4,[44],0)::joinK ((x1::xs).map tk))).length
  simp only[yA,yB];omega
theorem zc3 {α β:Type} {f:α→Ps→α×Ps} {tk:β→List Tk} {put:α→β→α} {stop:List Tk→Prop} {item:β→Prop}
 (hf:∀ x a s r,item x→At s (tk x++r)→stop r→f a s=(put a x,advN s (tk x).length)) (hc:∀ r,stop ((4,[44],0)::r)) {rest:List Tk} (hr:stop rest) (hn:isK rest [44]=false)
 {xs:List β} (h0:xs≠[]) (a:α) {s:Ps} (hi:∀ x∈xs,item x) (h:At s (joinK (xs.map tk)++rest)):listP f a s=(xs.foldl put a,advN s (joinK (xs.map tk)).length):=by
 cases xs with
 | nil=>exact absurd rfl h0
 | cons x0 xs=>exact zeh hf hc hr hn xs x0 _ a s hi h (by omega)
theorem zhb {α β:Type} (g:α→β):∀ (l:List α) (acc:List β),l.foldl (fun a x=>a++[g x]) acc=acc++l.map g
 | [],acc=>by simp
 | x::r,acc=>by rw[List.foldl_cons,zhb g r,List.map_cons,yM];rfl
theorem zbJ {β:Type} (l:List β):l.foldl (fun a x=>a++[x]) []=l:=by
 have:=zhb (id:β→β) l [];simpa using this
def ze7:List Tk→Prop:=fun _=>True
theorem zgV {s:Ps} {ns:List Str} {rest:List Tk} (h0:ns≠[]) (a:At s (joinK (ns.map fun n=>[(1,n,0)])++rest)) (hn:isK rest [44]=false):zaL s=(ns,advN s (joinK (ns.map fun n=>[((1:Int),n,(0:Int))])).length):=by
 unfold zaL;rw[zc3 (f:=fun a s=>(a++[(nameP s).1],(nameP s).2)) (tk:=fun n=>[(1,n,0)]) (put:=fun a n=>a++[n]) (stop:=ze7) (item:=fun _=>True) (fun x a s r _ h _=>by
  show (a++[(nameP s).1],(nameP s).2)=_
  rw[(zb8 h).1];rfl) (fun _=>trivial) trivial hn h0 [] (fun _ _=>trivial) a,zbJ]
theorem zlD {s:Ps} {on:List (Str×Str)} {rest:List Tk} (h0:on≠[]) (a:At s (joinK (on.map pairK)++rest)) (hn:isK rest [44]=false):listP zaU [] s=(on,advN s (joinK (on.map pairK)).length):=by
 rw[zc3 (f:=zaU) (tk:=pairK) (put:=fun a n=>a++[n]) (stop:=ze7) (item:=fun _=>True) (fun x a s r _ h _=>by
  obtain ⟨e1,h1⟩:=zb8 (rest:=(4,[61],0)::(1,x.2,0)::r) h;obtain ⟨e2,h2⟩:=zbx (.inr rfl) h1;obtain ⟨e3,h3⟩:=zb8 h2;unfold zaU;rw[e1];simp only;rw[e2,e3];rfl) (fun _=>trivial) trivial hn h0 [] (fun _ _=>trivial) a,zbJ]
theorem zjK {s:Ps} {os:List (Str×Bool)} {rest:List Tk} (h0:os≠[]) (a:At s (joinK (os.map ordK)++rest)) (hn:isK rest [44]=false) (hd:isK rest sDown=false):listP zaW [] s=(os,advN s (joinK (os.map ordK)).length):=by
 rw[zc3 (f:=zaW) (tk:=ordK) (put:=fun a n=>a++[n]) (stop:=fun r=>isK r sDown=false) (item:=fun _=>True) (fun x a s r _ h hs=>by
  obtain ⟨n,b⟩:=x
  cases b with
  | false =>
   obtain ⟨e1,h1⟩:=zb8 (rest:=r) h;unfold zaW zdN;rw[e1];simp only;rw[h1.is,hs];rfl
  | true =>
   obtain ⟨e1,h1⟩:=zb8 (rest:=(1,sDown,0)::r) h;unfold zaW zdN;rw[e1];simp only;rw[is_at (.inl rfl) h1];rfl) (fun r=>by rw[zc6];decide) hd hn h0 [] (fun _ _=>trivial) a,zbJ]
theorem zqC {a:List (Str×Str×Str)} {s:Ps} {x:Str×Str×Str} {r:List Tk} (hw:x.1∈zag) (hc:x.2.1=[]∨zao x.2.1) (h:At s (aggK x++r)):zah a s=(a++[x],advN s (aggK x).length):=by
 obtain ⟨op,c,n⟩:=x;obtain ⟨j,j1,j2⟩:=zie hw;obtain ⟨e1,h1⟩:=zdM (ws:=zag) (.inl rfl) (rest:=(4,[40],0)::((colK c++[(4,[41],0),(1,sAs,0),(1,n,0)])++r)) h j1;obtain ⟨e2,h2⟩:=zbx (.inr rfl) h1;have e0:aggOp (1+j)=op:=by
  unfold aggOp;rw[if_neg (by omega),show 1+j-1=j by omega];exact j2
 have key:∀ s2:Ps,At s2 ((colK c++[(4,[41],0),(1,sAs,0),(1,n,0)])++r)→zbi s2=(c,advN s2 (colK c).length)∧At (advN s2 (colK c).length) ((4,[41],0)::(1,sAs,0)::(1,n,0)::r):=fun s2 h2=>by
  unfold zbi colK at *
  by_cases hz:c=[]
  ·rw[if_pos hz]at h2 ⊢;have h3:At s2 ((4,[41],0)::(1,sAs,0)::(1,n,0)::r):=h2;rw[if_pos (by rw[is_at (.inr rfl) h3];decide)];exact ⟨by rw[hz];rfl,h3⟩
  ·rw[if_neg hz]at h2 ⊢;have h3:At s2 ((1,c,0)::(4,[41],0)::(1,sAs,0)::(1,n,0)::r):=h2;have hcw:c≠[41]:=by
    rintro rfl;rcases hc with hc|hc
    ·exact hz hc
    ·rcases hc with ⟨_,_,⟨a,l,e,hl⟩,_⟩|⟨h1,_⟩|⟨h1,_⟩|⟨h1,_⟩
     ·cases e;revert hl;decide
     ·exact absurd h1 (by show ¬ (1:Int)=2;decide)
     ·exact absurd h1 (by show ¬ (1:Int)=3;decide)
     ·exact absurd h1 (by show ¬ (1:Int)=4;decide)
   rw[if_neg (by rw[is_at (.inl rfl) h3,yN hcw];decide)];obtain ⟨e3,h4⟩:=zb8 h3;exact ⟨e3,h4⟩
 obtain ⟨e3,h3⟩:=key _ h2;obtain ⟨e4,h4⟩:=zbx (.inr rfl) h3;obtain ⟨e5,h5⟩:=zbx (.inl rfl) h4;obtain ⟨e6,h6⟩:=zb8 h5;unfold zah;rw[e1];simp only;rw[e2,e3];simp only;rw[e4,e5,e6,e0];refine Prod.ext rfl ?_;show advP (advP (advP (advN (advP (advP s)) (colK c).length)))=advN s (aggK (op,c,n)).length
 rw[zaB,zaB,zaB,zaB,zaB,zap,zap,zap,zap,zap];congr 1
 unfold aggK;simp only[yB,yA,List.length_nil];omega
theorem zoT {s:Ps} {gs:List (Str×Str×Str)} {rest:List Tk} (h0:gs≠[]) (hg:∀ g∈gs,g.1∈zag∧(g.2.1=[]∨zao g.2.1)) (a:At s (joinK (gs.map aggK)++rest)) (hn:isK rest [44]=false):listP zah [] s=(gs,advN s (joinK (gs.map aggK)).length):=by
 rw[zc3 (f:=zah) (tk:=aggK) (put:=fun a n=>a++[n]) (stop:=ze7) (item:=fun g=>g.1∈zag∧(g.2.1=[]∨zao g.2.1)) (fun x a s r hx h _=>zqC hx.1 hx.2 h) (fun _=>trivial) trivial hn h0 [] hg a,zbJ]
theorem zhT:∀ (xs:List Ex) (ns:List Str),xs.length=ns.length→keptK xs ns=(xs.zip ns).map fun p=>keepK p.1 p.2
 | [],[],_=>rfl
 | x::xs,n::ns,h=>by
  show keepK x n::keptK xs ns=keepK x n::(xs.zip ns).map _
  rw[zhT xs ns (by simpa using h)]
theorem zgm:∀ (l:List (Ex×Str)) (a:List Ex×List Str),l.foldl (fun a p=>(a.1++[p.1],a.2++[p.2])) a=(a.1++l.map (·.1),a.2++l.map (·.2))
 | [],a=>by simp
 | p::l,a=>by rw[List.foldl_cons,zgm l];simp
theorem znN {s:Ps} {xs:List Ex} {ns:List Str} {rest:List Tk} (h0:xs≠[]) (hl:xs.length=ns.length) (hx:∀ x∈xs,ExOk x) (a:At s (joinK (keptK xs ns)++rest)) (hn:isK rest [44]=false):listP zay ([],[]) s=((xs,ns),advN s (joinK (keptK xs ns)).length):=by
 rw[zhT xs ns hl]at a ⊢;have hz:xs.zip ns≠[]:=by
  cases xs with
  | nil=>exact absurd rfl h0
  | cons x xs=>cases ns with
   | nil=>simp at hl
   | cons n ns=>simp
 rw[zc3 (f:=zay) (tk:=fun p=>keepK p.1 p.2) (put:=fun a p=>(a.1++[p.1],a.2++[p.2])) (stop:=ze7) (item:=fun p=>ExOk p.1) (fun x a s r hx h _=>by
  obtain ⟨x,n⟩:=x;change At s ((tkE x++[(1,sAs,0),(1,n,0)])++r) at h
  rw[yM]at h;have e1:=ze4 hx.1 hx.2 h (fun o ho=>by
   have ho':decide (((1:Int)=1∨(1:Int)=4)∧sAs=o)=true:=ho;rw[yL]at ho';obtain rfl:=ho'.2;exact ⟨by decide,by decide⟩)
  have h1:=h.app;obtain ⟨e2,h2⟩:=zbx (.inl rfl) (rest:=(1,n,0)::r) h1;obtain ⟨e3,h3⟩:=zb8 h2;unfold zay;rw[e1];simp only;rw[e2,e3];refine Prod.ext rfl ?_;show advP (advP (advN s (tkE x).length))=advN s (tkE x++[_,_]).length
  rw[zaB,zaB,zap,zap];congr 1
  simp) (fun _=>trivial) trivial hn hz ([],[]) (fun p hp=>hx _ (List.of_mem_zip hp).1) a,zgm]
 have e1:(xs.zip ns).map (·.1)=xs:=List.map_fst_zip (by omega);have e2:(xs.zip ns).map (·.2)=ns:=List.map_snd_zip (by omega);simp only[e1,e2,List.nil_append]
def qS:List Str:=[[124],[41],[59]]
def qE:List Str:=[[41],[59]]
theorem qE_qS {ts:List Tk} (h:Sg qE ts):Sg qS ts:=h.mono (by decide)
theorem zrJ {ts:List Tk} (h:Sg qS ts):stopK 1 ts:=h.stop (by decide)
theorem zfJ {ts:List Tk} (h:Sg qS ts):isK ts [44]=false:=h.no (by decide)
def Res (ok:Prop) (f:Pl×Ps) (p:Pl) (s:Ps) (m:Nat):Prop:=(ok→f=(p,advN s m))∧(¬ ok→f.2.e=52)
theorem Res.yes {ok:Prop} {f:Pl×Ps} {p:Pl} {s:Ps} {m:Nat} (h:f=(p,advN s m)) (hk:ok):Res ok f p s m:=⟨fun _=>h,fun hn=>absurd hk hn⟩
def QBack (b:Pl):Prop:=∀ (n:Nat) (s:Ps) (rest:List Tk),At s (tkQ b++rest)→Sg qE rest→Res (deepQ b≤n) (za6 (dparN n) s) b s (tkQ b).length
theorem ziH {b:Pl} (ob:OkQ b) (hb:QBack b) (n:Nat) {s:Ps} {rest:List Tk} (a:At s (partK (b,tkQ b)++rest)):Res (partN (b,deepQ b)≤n) (partP (dparN n) s) b s (partK (b,tkQ b)).length:=by
 unfold partK partN at *
 simp only at a ⊢;by_cases hk:b.k=1
 ·obtain ⟨m,hm,rfl⟩:=ob.scan_of hk;rw[if_pos hk]at a ⊢;rw[if_pos hk];refine Res.yes ?_ (yS _);obtain ⟨e1,h1⟩:=zb8 (n:=m) (m:=0) (rest:=rest) a;unfold partP;rw[if_neg,e1]
  ·rfl
  ·rw[is_at (.inl rfl) (x:=m) (m:=0) (rest:=rest) a];rcases hm with ⟨_,_,⟨c,l,e,hl⟩,_⟩|⟨h1,_⟩|⟨h1,_⟩|⟨h1,_⟩
   ·rw[yN];decide;intro e';have e2:c::l=[40]:=e.symm.trans e'
    cases e2;revert hl;decide
   ·exact absurd h1 (by show ¬ (1:Int)=2;decide)
   ·exact absurd h1 (by show ¬ (1:Int)=3;decide)
   ·exact absurd h1 (by show ¬ (1:Int)=4;decide)
 ·rw[if_neg hk]at a ⊢;rw[if_neg hk];change At s ((4,[40],0)::((tkQ b++[(4,[41],0)])++rest)) at a
  rw[yM]at a;obtain ⟨e1,h1⟩:=zbx (.inr rfl) a;unfold partP;rw[if_pos (by rw[is_at (.inr rfl) a];decide)]
  cases n with
  | zero =>
   refine ⟨fun h=>absurd h (by omega),fun _=>?_⟩;show (failP s 52).e=52
   unfold failP;rw[if_pos a.1]
  | succ n =>
   show Res _ (zdL (za6 (dparN n)) s) _ _ _
   unfold zdL;rw[e1];obtain ⟨r1,r2⟩:=hb n _ _ h1 (Sg.cons (by decide) _);refine ⟨fun h=>?_,fun h=>?_⟩
   ·rw[r1 (by omega)];simp only;obtain ⟨e2,h2⟩:=zbx (.inr rfl) (h1.app (b:=(4,[41],0)::rest));rw[e2,zaB,zaB,zap,zap];congr 2
    simp only[yB,yA,List.length_nil];omega
   ·have:=r2 (by omega);show (wantP [41] (za6 (dparN n) (advP s)).2).e=52
    rw[(zan [41] _).er (by rw[this];decide)];exact this
theorem zcG {s:Ps} {w:Str} {j:Nat} {rest:List Tk} (dp:PQ) (over:Pl) (a:At s ((1,w,0)::rest)) (hj:zeA w zaq=some j):stepP dp over s=stepK dp over (1+j) (advP s)∧At (advP s) rest:=by
 obtain ⟨e1,h1⟩:=zdM (ws:=zaq) (.inl rfl) a hj;unfold stepP;rw[e1];exact ⟨rfl,h1⟩
theorem zew (s:Ps) (m:Nat) (t:Tk) (l:List Tk) (h:m=l.length):advN (advP s) m=advN s (t::l).length:=by
 rw[zaB,zap,h,yB,Nat.add_comm]
theorem zla {over:Pl} {x:Ex} (dp:PQ) (hx:ExOk x) {s:Ps} {rest:List Tk} (a:At s (((1,zbK,0)::tkE x)++rest)) (hs:Sg qS rest) :
 stepP dp over s=(.mk 2 [] [over] x [] [] [] [] [] 0,advN s ((1,zbK,0)::tkE x).length):=by
 obtain ⟨e1,h1⟩:=zcG (j:=0) dp over (rest:=tkE x++rest) a (by decide);rw[e1];show (Pl.mk 2 [] [over] (zak (advP s)).1 [] [] [] [] [] 0,(zak (advP s)).2)=_
 rw[ze4 hx.1 hx.2 h1 (zrJ hs)];rw[zew s _ (1,zbK,0) (tkE x) rfl]
theorem zlS {over:Pl} {xs:List Ex} {ns:List Str} (dp:PQ) (h0:xs≠[]) (hl:xs.length=ns.length) (hx:∀ x∈xs,ExOk x) {s:Ps} {rest:List Tk} (a:At s (((1,sKeep,0)::joinK (keptK xs ns))++rest)) (hs:Sg qS rest) :
 stepP dp over s=(.mk 3 [] [over] zEx ns xs [] [] [] 0,advN s ((1,sKeep,0)::joinK (keptK xs ns)).length):=by
 obtain ⟨e1,h1⟩:=zcG (j:=1) dp over (rest:=joinK (keptK xs ns)++rest) a (by decide);rw[e1];show (Pl.mk 3 [] [over] zEx (listP zay ([],[]) (advP s)).1.2 (listP zay ([],[]) (advP s)).1.1 [] [] [] 0,(listP zay ([],[]) (advP s)).2)=_
 rw[znN h0 hl hx h1 (zfJ hs)];rw[zew s _ (1,sKeep,0) (joinK (keptK xs ns)) rfl]
theorem ziV {b:Pl} {on:List (Str×Str)} (ob:OkQ b) (hb:QBack b) (n:Nat) (h0:on≠[]) {s:Ps} {rest:List Tk} (a:At s ((partK (b,tkQ b)++(1,sOn,0)::joinK (on.map pairK))++rest)) (hs:Sg qS rest) :
 (partN (b,deepQ b)≤n→joinP (dparN n) s=((b,on),advN s (partK (b,tkQ b)++(1,sOn,0)::joinK (on.map pairK)).length))∧(¬ partN (b,deepQ b)≤n→(joinP (dparN n) s).2.e=52):=by
 rw[yM]at a;obtain ⟨r1,r2⟩:=ziH ob hb n a;have h1:=a.app;obtain ⟨e2,h2⟩:=zbx (.inl rfl) (rest:=joinK (on.map pairK)++rest) h1;refine ⟨fun h=>?_,fun h=>?_⟩
 ·unfold joinP;rw[r1 h];simp only;rw[e2,zlD h0 h2 (zfJ hs)];refine Prod.ext rfl ?_;show advN (advP (advN s (partK (b,tkQ b)).length)) _=_
  rw[zaB,zap,zap];congr 1
  simp only[yB,yA];omega
 ·have:=r2 h;show (listP zaU [] (wantP sOn (partP (dparN n) s).2)).2.e=52
  rw[((zan sOn (partP (dparN n) s).2).trans (zbq zb4 [] _)).er (by rw[this];decide)];exact this
theorem zgY {over b:Pl} {on:List (Str×Str)} {k:Int} {w:Str} (hk:(k=4∧w=sJoin)∨(k=5∧w=sLeft)) (ob:OkQ b) (hb:QBack b) (n:Nat) (h0:on≠[]) {s:Ps} {rest:List Tk} (a:At s (((1,w,0)::(partK (b,tkQ b)++(1,sOn,0)::joinK (on.map pairK)))++rest)) (hs:Sg qS rest) :
 Res (partN (b,deepQ b)≤n) (stepP (dparN n) over s) (.mk k [] [over,b] zEx [] [] on [] [] 0) s ((1,w,0)::(partK (b,tkQ b)++(1,sOn,0)::joinK (on.map pairK))).length:=by
 rcases hk with ⟨rfl,rfl⟩|⟨rfl,rfl⟩
 ·obtain ⟨e1,h1⟩:=zcG (j:=2) (dparN n) over (rest:=(partK (b,tkQ b)++(1,sOn,0)::joinK (on.map pairK))++rest) a (by decide);rw[e1];obtain ⟨r1,r2⟩:=ziV ob hb n h0 h1 hs;refine ⟨fun h=>?_,fun h=>r2 h⟩;show (Pl.mk 4 [] [over,(joinP (dparN n) (advP s)).1.1] zEx [] [] (joinP (dparN n) (advP s)).1.2 [] [] 0,(joinP (dparN n) (advP s)).2)=_
  rw[r1 h,zew s _ (1,sJoin,0) _ rfl]
 ·obtain ⟨e1,h1⟩:=zcG (j:=3) (dparN n) over (rest:=(partK (b,tkQ b)++(1,sOn,0)::joinK (on.map pairK))++rest) a (by decide);rw[e1];obtain ⟨r1,r2⟩:=ziV ob hb n h0 h1 hs;refine ⟨fun h=>?_,fun h=>r2 h⟩;show (Pl.mk 5 [] [over,(joinP (dparN n) (advP s)).1.1] zEx [] [] (joinP (dparN n) (advP s)).1.2 [] [] 0,(joinP (dparN n) (advP s)).2)=_
  rw[r1 h,zew s _ (1,sLeft,0) _ rfl]
theorem zld {over b:Pl} (ob:OkQ b) (hb:QBack b) (n:Nat) {s:Ps} {rest:List Tk} (a:At s (((1,zbL,0)::partK (b,tkQ b))++rest)) :
 Res (partN (b,deepQ b)≤n) (stepP (dparN n) over s) (.mk 7 [] [over,b] zEx [] [] [] [] [] 0) s ((1,zbL,0)::partK (b,tkQ b)).length:=by
 obtain ⟨e1,h1⟩:=zcG (j:=5) (dparN n) over (rest:=partK (b,tkQ b)++rest) a (by decide);rw[e1];obtain ⟨r1,r2⟩:=ziH ob hb n h1;refine ⟨fun h=>?_,fun h=>r2 h⟩;show (Pl.mk 7 [] [over,(partP (dparN n) (advP s)).1] zEx [] [] [] [] [] 0,(partP (dparN n) (advP s)).2)=_
 rw[r1 h,zew s _ (1,zbL,0) _ rfl]
theorem zon {over:Pl} (dp:PQ) {s:Ps} {rest:List Tk} (a:At s ([(1,zaE,0)]++rest)):stepP dp over s=(.mk 8 [] [over] zEx [] [] [] [] [] 0,advN s 1):=by
 obtain ⟨e1,h1⟩:=zcG (j:=6) dp over (rest:=rest) a (by decide);rw[e1];rfl
theorem ziZ {n x:Str} (h:zao n) (hx:∀ c l,x=c::l→letB c=false) (m:Int) (r:List Tk):isK ((1,n,m)::r) x=false:=by
 rw[zc6,yN];rintro ⟨_,rfl⟩;rcases h with ⟨_,_,⟨c,l,e,hl⟩,_⟩|⟨h1,_⟩|⟨h1,_⟩|⟨h1,_⟩
 ·have:=hx c l e;rw[hl]at this;cases this
 ·exact absurd h1 (by show ¬ (1:Int)=2;decide)
 ·exact absurd h1 (by show ¬ (1:Int)=3;decide)
 ·exact absurd h1 (by show ¬ (1:Int)=4;decide)
theorem zd8 {l:List Tk} {h:Tk} {r:List Tk}:∀ (ls:List (List Tk)),l=h::r→∃ r',joinK (l::ls)=h::r'
 | [],e=>⟨r,e⟩
 | a::ls,e=>⟨r++((4,[44],0)::joinK (a::ls)),by rw[show joinK (l::a::ls)=l++((4,[44],0)::joinK (a::ls)) from rfl,e];rfl⟩
theorem zlV {over:Pl} {ns:List Str} {gs:List (Str×Str×Str)} (dp:PQ) (hn:∀ n∈ns,zao n) (hg:∀ g∈gs,g.1∈zag∧(g.2.1=[]∨zao g.2.1)) {s:Ps} {rest:List Tk}
 (a:At s (((1,zbM,0)::(joinK (ns.map fun n=>[(1,n,0)])++(4,[58],0)::joinK (gs.map aggK)))++rest)) (hs:Sg qS rest) :
 stepP dp over s=(.mk 6 [] [over] zEx ns [] [] gs [] 0,advN s ((1,zbM,0)::(joinK (ns.map fun n=>[((1:Int),n,(0:Int))])++(4,[58],0)::joinK (gs.map aggK))).length):=by
 obtain ⟨e1,h1⟩:=zcG (j:=4) dp over (rest:=(joinK (ns.map fun n=>[(1,n,0)])++(4,[58],0)::joinK (gs.map aggK))++rest) a (by decide);rw[e1];show (Pl.mk 6 [] [over] zEx (za2 (advP s)).1.1 [] [] (za2 (advP s)).1.2 [] 0,(za2 (advP s)).2)=_
 have key:za2 (advP s)=((ns,gs),advN (advP s) (joinK (ns.map fun n=>[((1:Int),n,(0:Int))])++(4,[58],0)::joinK (gs.map aggK)).length):=by
  generalize advP s=s1 at h1 ⊢;rw[yM]at h1;have e2:zav s1=(ns,advN s1 (joinK (ns.map fun n=>[((1:Int),n,(0:Int))])).length):=by
   unfold zav
   cases ns with
   | nil =>
    have h2:At s1 ((4,[58],0)::(joinK (gs.map aggK)++rest)):=h1;rw[if_pos (by rw[is_at (.inr rfl) h2];decide)];rfl
   | cons n0 ns =>
    obtain ⟨r',hr'⟩:=zd8 (l:=[((1:Int),n0,(0:Int))]) (h:=(1,n0,0)) (r:=[]) (ns.map fun n=>[((1:Int),n,(0:Int))]) rfl;rw[if_neg]
    ·exact zgV (List.cons_ne_nil _ _) h1 (by rw[List.cons_append,zc6];decide)
    ·rw[h1.is,List.map_cons,hr',List.cons_append,ziZ (hn n0 (by simp)) (fun c l e=>by cases e;decide)];decide
  obtain ⟨e3,h3⟩:=zbx (.inr rfl) (rest:=joinK (gs.map aggK)++rest) h1.app;have e4:zaO (advP (advN s1 (joinK (ns.map fun n=>[((1:Int),n,(0:Int))])).length))=(gs,advN (advP (advN s1 (joinK (ns.map fun n=>[((1:Int),n,(0:Int))])).length)) (joinK (gs.map aggK)).length):=by
   generalize advP (advN s1 (joinK (ns.map fun n=>[((1:Int),n,(0:Int))])).length)=s2 at h3 ⊢;unfold zaO
   cases gs with
   | nil =>
    have h4:At s2 rest:=h3;rw[if_neg (hs.kind h4)];rfl
   | cons g0 gs =>
    obtain ⟨r',hr'⟩:=zd8 (l:=aggK g0) (h:=(1,g0.1,0)) (r:=(4,[40],0)::(colK g0.2.1++[(4,[41],0),(1,sAs,0),(1,g0.2.2,0)])) (gs.map aggK) rfl;have hk:(peekP s2).k=1:=by
     have h4:=h3;rw[List.map_cons,hr',List.cons_append]at h4;exact congrArg (·.1) h4.peek.1
    rw[if_pos hk];exact zoT (List.cons_ne_nil _ _) hg h3 (zfJ hs)
  unfold za2;rw[e2];simp only;rw[e3,e4];refine Prod.ext rfl ?_;show advN (advP (advN s1 _)) _=advN s1 _
  rw[zaB,zap,zap];congr 1
  simp only[yB,yA];omega
 rw[key,zew s _ (1,zbM,0) _ rfl]
theorem zl1 {over:Pl} {n:Int} {os:List (Str×Bool)} (dp:PQ) {s:Ps} {rest:List Tk} (a:At s (((1,zbu,0)::(2,[],n)::byK os)++rest)) (hs:Sg qS rest) :
 stepP dp over s=(.mk 9 [] [over] zEx [] [] [] [] os n,advN s ((1,zbu,0)::(2,[],n)::byK os).length):=by
 obtain ⟨e1,h1⟩:=zcG (j:=7) dp over (rest:=(2,[],n)::(byK os++rest)) a (by decide);rw[e1];show (Pl.mk 9 [] [over] zEx [] [] [] [] (zck (advP s)).1.2 (zck (advP s)).1.1,(zck (advP s)).2)=_
 obtain ⟨e2,e3,h2⟩:=zgT h1;have e4:za5 (advP (advP s))=(os,advN (advP (advP s)) (byK os).length):=by
  generalize advP (advP s)=s2 at h2 ⊢;unfold za5;unfold byK at h2 ⊢;by_cases hz:os=[]
  ·rw[if_pos hz]at h2 ⊢;have h3:At s2 rest:=h2;rw[if_neg (by rw[h3.is,hs.no (by decide)];decide),hz];rfl
  ·rw[if_neg hz]at h2 ⊢;have h3:At s2 ((1,sBy,0)::(joinK (os.map ordK)++rest)):=h2;rw[if_pos (by rw[is_at (.inl rfl) h3];decide),zjK hz h3.peek.2.1 (zfJ hs) (hs.no (by decide))];rw[zew s2 _ (1,sBy,0) _ rfl]
 unfold zck;rw[e2,e3,e4];refine Prod.ext rfl ?_;show advN (advP (advP s)) _=_
 rw[zaB,zaB,zap,zap];congr 1
 simp only[yB];omega
def QRun (p:Pl):Prop:=∀ (n:Nat) (s:Ps) (rest:List Tk),At s (tkQ p++rest)→Sg qS rest→
 (deepQ p≤n→∃ fuel,s.T.length<fuel+(s.i+(tkQ p).length)∧za6 (dparN n) s=zaI (dparN n) fuel p (advN s (tkQ p).length))∧(¬ deepQ p≤n→(za6 (dparN n) s).2.e=52)
theorem zmM {dp:PQ} {fuel:Nat} {q:Pl} {s:Ps} (h:s.e=52):(zaI dp fuel q s).2.e=52:=by
 rw[zc0]
 ·exact h
 ·cases hx:isP s [124] with
  | false=>rfl
  | true=>have:=(zbU hx).1;rw[h]at this;cases this
theorem zdJ {p:Pl} (h:QRun p):QBack p:=fun n s rest a st=>by
 obtain ⟨h1,h2⟩:=h n s rest a (qE_qS st);refine ⟨fun hk=>?_,h2⟩;obtain ⟨fuel,_,e⟩:=h1 hk;rw[e,zc0];rw[a.app.is];exact st.no (by decide)
theorem zdb {over p:Pl} {ts:List Tk} {m:Nat} (ho:QRun over) (ht:tkQ p=tkQ over++((4,[124],0)::ts)) (hd:deepQ p=max (deepQ over) m)
 (hst:∀ (n:Nat) (s:Ps) (rest:List Tk),At s (ts++rest)→Sg qS rest→Res (m≤n) (stepP (dparN n) over s) p s ts.length):QRun p:=fun n s rest a st=>by
 rw[ht,yM,List.cons_append]at a;obtain ⟨h1,h2⟩:=ho n s _ a (Sg.cons (by decide) _);have a2:=a.app;obtain ⟨p1,p2,p3⟩:=a2.peek;have p3':s.i+(tkQ over).length<s.T.length:=p3;have hbar:isP (advN s (tkQ over).length) [124]=true:=by rw[is_at (.inr rfl) a2];decide
 have hiff:deepQ p≤n↔deepQ over≤n∧m≤n:=by rw[hd,Nat.max_le]
 by_cases hov:deepQ over≤n
 ·obtain ⟨fuel,hf,e⟩:=h1 hov;obtain ⟨fu,rfl⟩:∃ fu,fuel=fu+1:=⟨fuel-1,by omega⟩;obtain ⟨r1,r2⟩:=hst n _ rest p2 st;refine ⟨fun hk=>⟨fu,?_,?_⟩,fun hk=>?_⟩
  ·rw[ht,yA,yB];omega
  ·rw[e,zcx hbar,r1 (hiff.1 hk).2];simp only;rw[zaB,zap,zap,ht];congr 2
   rw[yA,yB];omega
  ·rw[e,zcx hbar];exact zmM (r2 fun h=>hk (hiff.2 ⟨hov,h⟩))
 ·refine ⟨fun hk=>absurd (hiff.1 hk).1 hov,fun _=>h2 hov⟩
theorem zmN:∀ p,OkQ p→QRun p:=by
 intro p;refine Pl.ind (P:=fun p=>OkQ p→QRun p) ?_ p;intro p ih ok
 cases ok with
 | scan m h =>
  intro n s rest a st;rw[zfB]at a ⊢;rw[zdw];refine ⟨fun _=>⟨s.T.length+1,by omega,?_⟩,fun h=>absurd (yS _) h⟩;obtain ⟨e1,h1⟩:=zb8 (n:=m) (m:=0) (rest:=rest) a;have e2:partP (dparN n) s=(scanL m,advP s):=by
   unfold partP;rw[if_neg,e1];rw[a.is,show [((1:Int),m,(0:Int))]++rest=(1,m,0)::rest from rfl,ziZ h (fun c l e=>by cases e;decide)];decide
  unfold za6;rw[e2];rfl
 | where_ a x ha hx=>exact zdb (m:=0) (ih a (by simp[Pl.xs]) ha) (zb7 _ _ _ _ _ _ _ _ _ (by decide)) (by rw[zbd _ _ _ _ _ _ _ _ _ (by decide)];omega) fun n s rest h st=>.yes (zla _ hx h st) (yS _)
 | keep a ns xs ha hl h0 hx hn=>exact zdb (m:=0) (ih a (by simp[Pl.xs]) ha) (zb7 _ _ _ _ _ _ _ _ _ (by decide)) (by rw[zbd _ _ _ _ _ _ _ _ _ (by decide)];omega) fun n s rest h st=>.yes (zlS _ h0 hl hx h st) (yS _)
 | join k a b on hk ha hb h0 ho =>
  have hb2:=zdJ (ih b (by simp[Pl.xs]) hb);rcases hk with rfl|rfl
  ·exact zdb (ih a (by simp[Pl.xs]) ha) (zdC _ _ _ _ _ _ _ _ _ _ (by decide)) (zcq _ _ _ _ _ _ _ _ _ _ (by decide)) fun n s rest h st=>zgY (.inl ⟨rfl,rfl⟩) hb hb2 n h0 h st
  ·exact zdb (ih a (by simp[Pl.xs]) ha) (zdC _ _ _ _ _ _ _ _ _ _ (by decide)) (zcq _ _ _ _ _ _ _ _ _ _ (by decide)) fun n s rest h st=>zgY (.inr ⟨rfl,rfl⟩) hb hb2 n h0 h st
 | group a ns gs ha hn hg=>exact zdb (m:=0) (ih a (by simp[Pl.xs]) ha) (zb7 _ _ _ _ _ _ _ _ _ (by decide)) (by rw[zbd _ _ _ _ _ _ _ _ _ (by decide)];omega) fun n s rest h st=>.yes (zlV _ hn (fun g hgm=>⟨(hg g hgm).1,(hg g hgm).2.1⟩) h st) (yS _)
 | union a b ha hb =>
  have hb2:=zdJ (ih b (by simp[Pl.xs]) hb);exact zdb (ih a (by simp[Pl.xs]) ha) (zdC _ _ _ _ _ _ _ _ _ _ (by decide)) (zcq _ _ _ _ _ _ _ _ _ _ (by decide)) fun n s rest h st=>zld hb hb2 n h
 | dist a ha=>exact zdb (m:=0) (ih a (by simp[Pl.xs]) ha) (zb7 _ _ _ _ _ _ _ _ _ (by decide)) (by rw[zbd _ _ _ _ _ _ _ _ _ (by decide)];omega) fun n s rest h st=>.yes (zon _ h) (yS _)
 | first a n os ha h0 h1 ho=>exact zdb (m:=0) (ih a (by simp[Pl.xs]) ha) (zb7 _ _ _ _ _ _ _ _ _ (by decide)) (by rw[zbd _ _ _ _ _ _ _ _ _ (by decide)];omega) fun n s rest h st=>.yes (zl1 _ h st) (yS _)
theorem zkk {p:Pl} (ok:OkQ p) {s:Ps} {rest:List Tk} (a:At s (tkQ p++rest)) (st:Sg qE rest):Res (deepQ p≤31) (topQ s) p s (tkQ p).length:=zdJ (zmN p ok) 31 s rest a st
def WrT (t:Str) (k:List Tk):Prop:=∀ r ts,RdT r ts→Cl r→RdT (t++r) (k++ts)
theorem WrT.ne {t:Str} {k:List Tk} (h:WrT t k) (hk:k≠[]):t≠[]:=by
 rintro rfl;obtain ⟨ts,q,e1,e2⟩:=h [] [] RdT.nil Cl.nil 0;rw[List.append_nil]at e1 e2;rw[zc4]at e1
 cases e1;exact hk e2.symm
theorem WrT.app {t u:Str} {k j:List Tk} (h:WrT t k) (g:WrT u j) (hc:∀ r,Cl (u++r)):WrT (t++u) (k++j):=fun r ts hr hcl=>by
 rw[yM,yM];exact h _ _ (g r ts hr hcl) (hc r)
theorem WrT.empty:WrT [] []:=fun r ts hr _=>hr
theorem wr_ex {x:Ex} (h:OkE x):WrT (textE x) (tkE x):=zqE x h
theorem zas {n:Str} (h:zao n):WrT n [(1,n,0)]:=fun r ts hr hc=>RdT.word h (fun c hh=>(hc c hh).1) hr
theorem zdP {n:Int} (h0:0≤n) (h1:n≤9223372036854775807):WrT (Lib.itoa n) [(2,[],n)]:=fun r ts hr hc=>RdT.num h0 h1 (fun c hh=>zfN (hc c hh).1) hr
def WrA (t:Str) (k:List Tk):Prop:=∀ r ts,RdT r ts→RdT (t++r) (k++ts)
theorem WrA.wt {t:Str} {k:List Tk} (h:WrA t k):WrT t k:=fun r ts hr _=>h r ts hr
theorem WrA.app {t u:Str} {k j:List Tk} (h:WrA t k) (g:WrT u j):WrT (t++u) (k++j):=fun r ts hr hcl=>by
 rw[yM,yM];exact h _ _ (g r ts hr hcl)
theorem WrA.both {t u:Str} {k j:List Tk} (h:WrA t k) (g:WrA u j):WrA (t++u) (k++j):=fun r ts hr=>by
 rw[yM,yM];exact h _ _ (g r ts hr)
theorem zbs {x:Str} (hx:x∈sgL) (h1:x≠[60]) (h2:x≠[62]):WrA x [(4,x,0)]:=fun r ts hr=>RdT.sign hx h1 h2 hr
theorem zbE {t:Str} {k:List Tk} (h:WrT t k):WrT (32::t) k:=fun r ts hr hc=>(h r ts hr hc).ws (by decide)
theorem zk1 (l:Str):Cl (32::l):=zcN (by decide) (by decide)
theorem zml {l:List (Str×List Tk)} (h:∀ p∈l,WrT p.1 p.2) (hf:(l.map (·.1)).filter (fun s=>decide (s≠[]))=[]):(l.map (·.2)).flatten=[]:=by
 induction l with
 | nil=>rfl
 | cons p l ih =>
  rw[List.map_cons,List.filter_cons]at hf;by_cases hp:p.1=[]
  ·rw[if_neg (by rw[hp];decide)]at hf;rw[List.map_cons,List.flatten_cons,ih (fun q hq=>h q (by simp[hq])) hf,List.append_nil];apply Classical.byContradiction;intro hk;exact (h p (by simp)).ne hk hp
  ·rw[if_pos (by simpa using hp)]at hf
   cases hf
theorem zd2:∀ (l:List (Str×List Tk)),(∀ p∈l,WrT p.1 p.2∧(p.2=[]→p.1=[]))→WrT (zaC (l.map (·.1))) (l.map (·.2)).flatten
 | [],h=>WrT.empty
 | p::l,h=>by
  have ih:=zd2 l (fun q hq=>h q (by simp[hq]));obtain ⟨h1,h2⟩:=h p (by simp);unfold zaC at ih ⊢;rw[List.map_cons,List.map_cons,List.filter_cons,List.flatten_cons];by_cases hp:p.1=[]
  ·rw[if_neg (by rw[hp];decide)];have:p.2=[]:=by
    apply Classical.byContradiction;intro hk;exact h1.ne hk hp
   rw[this];exact ih
  ·rw[if_pos (by simpa using hp)]
   cases hf:(l.map (·.1)).filter (fun s=>decide (s≠[])) with
   | nil =>
    rw[zml (fun q hq=>(h q (by simp[hq])).1) hf,List.append_nil];exact h1
   | cons a r =>
    rw[hf]at ih;exact h1.app (u:=[32]++joinS [32] (a::r)) (zbE ih) (fun r=>zk1 _)
theorem zdB {α:Type} {tx:α→Str} {tk:α→List Tk}:∀ (l:List α),(∀ x∈l,WrT (tx x) (tk x))→WrT (joinS [44,32] (l.map tx)) (joinK (l.map tk))
 | [],h=>WrT.empty
 | [x],h=>h x (by simp)
 | x::y::l,h=>by
  have ih:=zdB (y::l) (fun z hz=>h z (yJ _ hz));refine (h x (by simp)).app (u:=[44,32]++joinS [44,32] ((y::l).map tx)) (j:=(4,[44],0)::joinK ((y::l).map tk)) ?_ (fun r=>zcN (by decide) (by decide));exact (zbs (x:=[44]) (by decide) (by decide) (by decide)).app (zbE ih)
def WrQ (p:Pl):Prop:=WrT (textQ p) (tkQ p)
theorem zsM {x:Ex} (h:OkE x):tkE x≠[]:=by
 obtain ⟨k1,_⟩:=h.rank;obtain ⟨a,t,e,_⟩:=zjp x h 1;rw[zcg k1]at e;rw[e];exact List.cons_ne_nil _ _
theorem zmg {b:Pl} (ob:OkQ b) (h:WrQ b):WrT (partT (b,textQ b)) (partK (b,tkQ b)):=by
 unfold partT partK;simp only;by_cases hk:b.k=1
 ·obtain ⟨m,hm,rfl⟩:=ob.scan_of hk;rw[if_pos hk,if_pos hk];exact zas hm
 ·rw[if_neg hk,if_neg hk];refine (zbs (x:=[40]) (by decide) (by decide) (by decide)).app (u:=textQ b++[41]) (j:=tkQ b++[(4,[41],0)]) ?_;exact h.app (zbs (x:=[41]) (by decide) (by decide) (by decide)).wt (fun r=>zcN (by decide) (by decide))
theorem zkH (b:Pl×List Tk):partK b≠[]:=by unfold partK;split<;>exact List.cons_ne_nil _ _
theorem zkO:zao zbK:=.inl ⟨rfl,rfl,⟨119,[104,101,114,101],rfl,by decide⟩,by decide,by decide⟩
theorem znI:zao sKeep:=.inl ⟨rfl,rfl,⟨107,[101,101,112],rfl,by decide⟩,by decide,by decide⟩
theorem znJ:zao sJoin:=.inl ⟨rfl,rfl,⟨106,[111,105,110],rfl,by decide⟩,by decide,by decide⟩
theorem znH:zao sLeft:=.inl ⟨rfl,rfl,⟨108,[101,102,116],rfl,by decide⟩,by decide,by decide⟩
theorem zkQ:zao zbM:=.inl ⟨rfl,rfl,⟨103,[114,111,117,112],rfl,by decide⟩,by decide,by decide⟩
theorem zkP:zao zbL:=.inl ⟨rfl,rfl,⟨117,[110,105,111,110],rfl,by decide⟩,by decide,by decide⟩
theorem zer:zao zaE:=.inl ⟨rfl,rfl,⟨100,[105,115,116,105,110,99,116],rfl,by decide⟩,by decide,by decide⟩
theorem zhS:zao zbu:=.inl ⟨rfl,rfl,⟨102,[105,114,115,116],rfl,by decide⟩,by decide,by decide⟩
theorem kw_as:zao sAs:=.inl ⟨rfl,rfl,⟨97,[115],rfl,by decide⟩,by decide,by decide⟩
theorem kw_on:zao sOn:=.inl ⟨rfl,rfl,⟨111,[110],rfl,by decide⟩,by decide,by decide⟩
theorem kw_by:zao sBy:=.inl ⟨rfl,rfl,⟨98,[121],rfl,by decide⟩,by decide,by decide⟩
theorem znM:zao sDown:=.inl ⟨rfl,rfl,⟨100,[111,119,110],rfl,by decide⟩,by decide,by decide⟩
theorem ztn:∀ w∈zag,zao w:=by
 intro w hw;unfold zag at hw;simp only[List.mem_cons,List.not_mem_nil,or_false]at hw;rcases hw with rfl|rfl|rfl|rfl
 ·exact .inl ⟨rfl,rfl,⟨99,[111,117,110,116],rfl,by decide⟩,by decide,by decide⟩
 ·exact .inl ⟨rfl,rfl,⟨115,[117,109],rfl,by decide⟩,by decide,by decide⟩
 ·exact .inl ⟨rfl,rfl,⟨109,[105,110],rfl,by decide⟩,by decide,by decide⟩
 ·exact .inl ⟨rfl,rfl,⟨109,[97,120],rfl,by decide⟩,by decide,by decide⟩
theorem zao.ne {n:Str} (h:zao n):n≠[]:=by
 rcases h with ⟨_,_,⟨a,l,e,_⟩,_⟩|⟨h1,_⟩|⟨h1,_⟩|⟨h1,_⟩
 ·have e':n=a::l:=e;rw[e'];exact List.cons_ne_nil _ _
 ·exact absurd h1 (by show ¬ (1:Int)=2;decide)
 ·exact absurd h1 (by show ¬ (1:Int)=3;decide)
 ·exact absurd h1 (by show ¬ (1:Int)=4;decide)
theorem wr_sp {t u:Str} {k j:List Tk} (h:WrT t k) (g:WrT u j):WrT (t++(32::u)) (k++j):=h.app (zbE g) (fun r=>zk1 _)
theorem zmh {o:Str×Str} (h:zao o.1∧zao o.2):WrT (pairT o) (pairK o) :=
 wr_sp (k:=[(1,o.1,0)]) (zas h.1) ((zbs (x:=[61]) (by decide) (by decide) (by decide)).app (zbE (zas h.2)))
theorem zmj {a:Str×Str×Str} (h:a.1∈zag∧(a.2.1=[]∨zao a.2.1)∧zao a.2.2):WrT (aggT a) (aggK a):=by
 have tail:WrT ([41]++(32::(sAs++(32::a.2.2)))) [(4,[41],0),(1,sAs,0),(1,a.2.2,0)] :=
  (zbs (x:=[41]) (by decide) (by decide) (by decide)).app (zbE (wr_sp (k:=[(1,sAs,0)]) (zas kw_as) (zas h.2.2)))
 have col:WrT (a.2.1++([41]++(32::(sAs++(32::a.2.2))))) (colK a.2.1++[(4,[41],0),(1,sAs,0),(1,a.2.2,0)]):=by
  unfold colK;by_cases hz:a.2.1=[]
  ·rw[if_pos hz,hz];exact tail
  ·rw[if_neg hz];rcases h.2.1 with h1|h1
   ·exact absurd h1 hz
   ·exact (zas h1).app tail (fun r=>zcN (by decide) (by decide))
 exact (zas (ztn _ h.1)).app (u:=[40]++(a.2.1++([41]++(32::(sAs++(32::a.2.2)))))) ((zbs (x:=[40]) (by decide) (by decide) (by decide)).app col) (fun r=>zcN (by decide) (by decide))
theorem zsC {o:Str×Bool} (h:zao o.1):WrT (ordT o) (ordK o):=by
 unfold ordT ordK
 cases o.2 with
 | false=>exact zas h
 | true=>exact wr_sp (k:=[(1,o.1,0)]) (zas h) (zas znM)
theorem zq6 {x:Ex} {n:Str} (hx:OkE x) (hn:zao n):WrT (keepT x n) (keepK x n) :=
 wr_sp (wr_ex hx) (wr_sp (k:=[(1,sAs,0)]) (zas kw_as) (zas hn))
theorem zgl:∀ (xs:List Ex) (ns:List Str),xs.length=ns.length→keptL xs ns=(xs.zip ns).map fun p=>keepT p.1 p.2
 | [],[],_=>rfl
 | x::xs,n::ns,h=>by
  show keepT x n::keptL xs ns=keepT x n::(xs.zip ns).map _
  rw[zgl xs ns (by simpa using h)]
theorem zeS {α:Type} {tk:α→List Tk} {l:List α} (h0:l≠[]) (h:∀ x∈l,tk x≠[]):joinK (l.map tk)≠[]:=by
 cases l with
 | nil=>exact absurd rfl h0
 | cons x l =>
  obtain ⟨a,r,e⟩:=List.exists_cons_of_ne_nil (h x (by simp));obtain ⟨r',e'⟩:=zd8 (l.map tk) e;rw[List.map_cons,e'];exact List.cons_ne_nil _ _
theorem zel {over:Str} {ok:List Tk} (h:WrT over ok) (l:List (Str×List Tk)) (hl:∀ p∈l,WrT p.1 p.2∧(p.2=[]→p.1=[])) (hne:(l.map (·.2)).flatten≠[]) :
 WrT (over++([32,124,32]++zaC (l.map (·.1)))) (ok++((4,[124],0)::(l.map (·.2)).flatten)) :=
 wr_sp h ((zbs (x:=[124]) (by decide) (by decide) (by decide)).app (zbE (zd2 l hl)))
theorem zee {t:Str} {k:List Tk} (h:k≠[]):k=[]→t=[]:=fun e=>absurd e h
theorem kwp {w:Str} (h:zao w):WrT w [((1:Int),w,(0:Int))]∧([((1:Int),w,(0:Int))]=[]→w=[]):=⟨zas h,zee (List.cons_ne_nil _ _)⟩
theorem zmk:∀ p,OkQ p→WrQ p:=by
 intro p;refine Pl.ind (P:=fun p=>OkQ p→WrQ p) ?_ p;intro p ih ok;unfold WrQ
 cases ok with
 | scan n h=>rw[zdr,zfB];exact zas h
 | where_ a x ha hx =>
  rw[zbY _ _ _ _ _ _ _ _ _ (by decide),zb7 _ _ _ _ _ _ _ _ _ (by decide)];have:=zel (ih a (by simp[Pl.xs]) ha) [(zbK,[(1,zbK,0)]),(textE x,tkE x)] (by
   intro p hp;simp only[List.mem_cons,List.not_mem_nil,or_false]at hp;rcases hp with rfl|rfl
   ·exact kwp zkO
   ·exact ⟨wr_ex hx.1,zee (zsM hx.1)⟩) (by simp)
  simpa [stepT,zcM,Pl.k,Pl.cond] using this
 | keep a ns xs ha hl h0 hx hn =>
  rw[zbY _ _ _ _ _ _ _ _ _ (by decide),zb7 _ _ _ _ _ _ _ _ _ (by decide)];have hz:xs.zip ns≠[]:=by
   cases xs with
   | nil=>exact absurd rfl h0
   | cons x xs=>cases ns with
    | nil=>simp at hl
    | cons n ns=>simp
  have hm:∀ p∈xs.zip ns,WrT (keepT p.1 p.2) (keepK p.1 p.2):=fun p hp=>zq6 (hx _ (List.of_mem_zip hp).1).1 (hn _ (List.of_mem_zip hp).2)
  have:=zel (ih a (by simp[Pl.xs]) ha) [(sKeep,[(1,sKeep,0)]),(joinS [44,32] (keptL xs ns),joinK (keptK xs ns))] (by
   intro p hp;simp only[List.mem_cons,List.not_mem_nil,or_false]at hp;rcases hp with rfl|rfl
   ·exact kwp znI
   ·simp only;rw[zgl xs ns hl,zhT xs ns hl];refine ⟨zdB _ hm,zee (zeS hz fun p hp=>?_)⟩;unfold keepK;simp) (by simp)
  simpa [stepT,zcM,Pl.k,Pl.exprs,Pl.names] using this
 | join k a b on hk ha hb h0 ho =>
  have key:∀ (w:Str),zao w→WrT (textQ a++([32,124,32]++zaC [w,partT (b,textQ b),sOn,joinS [44,32] (on.map pairT)])) (tkQ a++((4,[124],0)::(1,w,0)::(partK (b,tkQ b)++(1,sOn,0)::joinK (on.map pairK)))):=fun w hw=>by
   have:=zel (ih a (by simp[Pl.xs]) ha) [(w,[(1,w,0)]),(partT (b,textQ b),partK (b,tkQ b)),(sOn,[(1,sOn,0)]),(joinS [44,32] (on.map pairT),joinK (on.map pairK))] (by
    intro p hp;simp only[List.mem_cons,List.not_mem_nil,or_false]at hp;rcases hp with rfl|rfl|rfl|rfl
    ·exact kwp hw
    ·exact ⟨zmg hb (ih b (by simp[Pl.xs]) hb),zee (zkH _)⟩
    ·exact kwp kw_on
    ·exact ⟨zdB _ fun o h=>zmh (ho o h),zee (zeS h0 fun o h=>by unfold pairK;exact List.cons_ne_nil _ _)⟩) (by simp)
   simpa using this
  rcases hk with rfl|rfl
  ·rw[zdq _ _ _ _ _ _ _ _ _ _ (by decide),zdC _ _ _ _ _ _ _ _ _ _ (by decide)];exact key sJoin znJ
  ·rw[zdq _ _ _ _ _ _ _ _ _ _ (by decide),zdC _ _ _ _ _ _ _ _ _ _ (by decide)];exact key sLeft znH
 | group a ns gs ha hn hg =>
  rw[zbY _ _ _ _ _ _ _ _ _ (by decide),zb7 _ _ _ _ _ _ _ _ _ (by decide)];have:=zel (ih a (by simp[Pl.xs]) ha) [(zbM,[(1,zbM,0)]),(joinS [44,32] (ns.map id),joinK (ns.map fun n=>[(1,n,0)])),([58],[(4,[58],0)]),(joinS [44,32] (gs.map aggT),joinK (gs.map aggK))] (by
   intro p hp;simp only[List.mem_cons,List.not_mem_nil,or_false]at hp;rcases hp with rfl|rfl|rfl|rfl
   ·exact kwp zkQ
   ·refine ⟨zdB (tx:=id) ns fun n h=>zas (hn n h),fun e=>?_⟩
    cases ns with
    | nil=>rfl
    | cons n ns=>exact absurd e (zeS (List.cons_ne_nil _ _) fun n h=>List.cons_ne_nil _ _)
   ·exact ⟨(zbs (x:=[58]) (by decide) (by decide) (by decide)).wt,zee (List.cons_ne_nil _ _)⟩
   ·refine ⟨zdB gs fun g h=>zmj (hg g h),fun e=>?_⟩
    cases gs with
    | nil=>rfl
    | cons n ns=>exact absurd e (zeS (List.cons_ne_nil _ _) fun n h=>by unfold aggK;exact List.cons_ne_nil _ _)) (by simp)
  simpa [stepT,zcM,Pl.k,Pl.aggs,Pl.names] using this
 | union a b ha hb =>
  rw[zdq _ _ _ _ _ _ _ _ _ _ (by decide),zdC _ _ _ _ _ _ _ _ _ _ (by decide)];have:=zel (ih a (by simp[Pl.xs]) ha) [(zbL,[(1,zbL,0)]),(partT (b,textQ b),partK (b,tkQ b))] (by
   intro p hp;simp only[List.mem_cons,List.not_mem_nil,or_false]at hp;rcases hp with rfl|rfl
   ·exact kwp zkP
   ·exact ⟨zmg hb (ih b (by simp[Pl.xs]) hb),zee (zkH _)⟩) (by simp)
  simpa [stepT,zcM,Pl.k] using this
 | dist a ha =>
  rw[zbY _ _ _ _ _ _ _ _ _ (by decide),zb7 _ _ _ _ _ _ _ _ _ (by decide)];exact wr_sp (ih a (by simp[Pl.xs]) ha) ((zbs (x:=[124]) (by decide) (by decide) (by decide)).app (zbE (zas zer)))
 | first a n os ha h0 h1 ho =>
  rw[zbY _ _ _ _ _ _ _ _ _ (by decide),zb7 _ _ _ _ _ _ _ _ _ (by decide)];by_cases hz:os=[]
  ·subst hz;have:=zel (ih a (by simp[Pl.xs]) ha) [(zbu,[(1,zbu,0)]),(Lib.itoa n,[(2,[],n)])] (by
    intro p hp;simp only[List.mem_cons,List.not_mem_nil,or_false]at hp;rcases hp with rfl|rfl
    ·exact kwp zhS
    ·exact ⟨zdP h0 h1,zee (List.cons_ne_nil _ _)⟩) (by simp)
   have e:zaC [zbu,Lib.itoa n,[],joinS [44,32] []]=zaC [zbu,Lib.itoa n]:=by
    unfold zaC;simp[joinS,List.filter]
   simpa [stepT,zcM,byK,Pl.k,Pl.cnt,Pl.ord,e] using this
  ·have:=zel (ih a (by simp[Pl.xs]) ha) [(zbu,[(1,zbu,0)]),(Lib.itoa n,[(2,[],n)]),(sBy,[(1,sBy,0)]),(joinS [44,32] (os.map ordT),joinK (os.map ordK))] (by
    intro p hp;simp only[List.mem_cons,List.not_mem_nil,or_false]at hp;rcases hp with rfl|rfl|rfl|rfl
    ·exact kwp zhS
    ·exact ⟨zdP h0 h1,zee (List.cons_ne_nil _ _)⟩
    ·exact kwp kw_by
    ·exact ⟨zdB os fun o h=>zsC (ho o h),zee (zeS hz fun o h=>by unfold ordK;exact List.cons_ne_nil _ _)⟩) (by simp)
   simpa [stepT,zcM,byK,Pl.k,Pl.cnt,Pl.ord,hz] using this
theorem zf6 (l:List UInt8):zdn l=allR zPl (topQ (openP l)).2 (topQ (openP l)).1:=by
 unfold zdn allR;rw[show (topQ (openP l)).2.E=l.length from (zeV (openP l)).E]
theorem ze9 {l:Str} {ts:List Tk} (h:RdT l ts) (hl:l.length≤16384):At (openP l) ts∧(openP l).T.length=ts.length:=by
 obtain ⟨ts',q,h1,h2⟩:=h 0;have hlex:lexS l=(ts',q,0):=by unfold lexS;rw[if_neg (by omega)];exact h1
 unfold openP;rw[hlex];exact ⟨⟨rfl,h2⟩,by rw[← h2,yC]⟩
theorem zh8 {α:Type} {z x:α} {l:Str} {ts:List Tk} (h:RdT l ts) (hl:l.length≤16384) {s:Ps} (hs:s=advN (openP l) ts.length):allR z s x=(x,l.length,0):=by
 obtain ⟨ha,hn⟩:=ze9 h hl;subst hs;have hd:allP (advN (openP l) ts.length)=advN (openP l) ts.length:=zdA (by
  show ¬ ((openP l).i+ts.length<(openP l).T.length)
  rw[hn];show ¬ (0+_<_);omega)
 unfold allR;rw[hd,if_pos (show (advN (openP l) ts.length).e=0 from ha.1)];rfl
theorem zoL {α:Type} {z x:α} {s:Ps} (h:s.e≠0):allR z s x=(z,s.a,s.e):=by unfold allR;rw[zdj h,if_neg h]
theorem zh6 {p:Pl} (ok:OkQ p) {l:Str} (h:RdT l ((4,[40],0)::(tkQ p++[(4,[41],0)]))) (hl:l.length≤16384):(deepQ p≤30→zdn l=(p,l.length,0))∧(¬ deepQ p≤30→(zdn l).2.2=52):=by
 obtain ⟨a,hn⟩:=ze9 h hl;obtain ⟨e1,h1⟩:=zbx (.inr rfl) a;obtain ⟨r1,r2⟩:=zdJ (zmN p ok) 30 (advP (openP l)) [(4,[41],0)] h1 (Sg.cons (by decide) _);have hpart:partP (dparN 31) (openP l)=((za6 (dparN 30) (advP (openP l))).1,wantP [41] (za6 (dparN 30) (advP (openP l))).2):=by
  unfold partP;rw[if_pos (by rw[is_at (.inr rfl) a];decide)];show zdL (za6 (dparN 30)) (openP l)=_
  unfold zdL;rw[e1]
 have hq:topQ (openP l)=zaI (dparN 31) ((openP l).T.length+1) (za6 (dparN 30) (advP (openP l))).1 (wantP [41] (za6 (dparN 30) (advP (openP l))).2):=by
  show zaI (dparN 31) ((openP l).T.length+1) (partP (dparN 31) (openP l)).1 (partP (dparN 31) (openP l)).2=_
  rw[hpart]
 rw[zf6];refine ⟨fun hd=>?_,fun hd=>?_⟩
 ·rw[hq,r1 hd];simp only;obtain ⟨e3,h3⟩:=zbx (.inr rfl) (h1.app (b:=[(4,[41],0)]));rw[e3,zc0 (by rw[h3.is];rfl)];refine zh8 h hl ?_;rw[zaB,zaB,zap,zap];show advN (openP l) (1+((tkQ p).length+1))=advN (openP l) _
  congr 1
  rw[yB,yA];show 1+((tkQ p).length+1)=(tkQ p).length+1+1
  omega
 ·have e52:=r2 hd;have ew:wantP [41] (za6 (dparN 30) (advP (openP l))).2=(za6 (dparN 30) (advP (openP l))).2:=(zan [41] _).er (by rw[e52];decide);have:(topQ (openP l)).2.e=52:=by rw[hq,ew];exact zmM e52
  rw[zoL (by rw[this];decide)];exact this
