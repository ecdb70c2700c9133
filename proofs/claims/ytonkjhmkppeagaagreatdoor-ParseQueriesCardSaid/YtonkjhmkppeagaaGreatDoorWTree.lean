/- The tree of an expression: folds, how tight it is, how deep, how heavy, its text. No program in sight. The plain law of the reader: what it reads is well formed, no deeper than it may be, no heavier than its tokens. No program in sight. The plain law on tokens: a token's text in front of anything that does not go on with it is read as that token. No program in sight. The plain law of the reader: an expression's own tokens are read as that expression. No program in sight. The plain law of the text of an expression: it is cut into its tokens, and read back. No program in sight. -/
import Derived.Test.YtonkjhmkppeagaaGreatDoorWPsA
import Derived.Test.YtonkjhmkppeagaaGreatDoorWLexB
set_option linter.unusedVariables false
namespace Go.Proofs.YtonkjhmkppeagaaGreatDoor.Pz
open Go.Proofs.Tryz
open Go Go.RowKit Lx
theorem Ex.ind {P:Ex→Prop} (h:∀ k nm v op xs,(∀ a∈xs,P a)→P (.mk k nm v op xs)):∀ x,P x
 | .mk k nm v op xs=>h k nm v op xs fun a ha=>Ex.ind h a
termination_by x=>SizeOf.sizeOf x
decreasing_by
 have:=List.sizeOf_lt_of_mem ha;simp only[Ex.mk.sizeOf_spec];omega
def foldE {α:Type} (F:Int→Str→Vl→Str→List (Ex×α)→α):Ex→α
 | .mk k nm v op xs=>F k nm v op (xs.attach.map fun a=>(a.1,foldE F a.1))
termination_by x=>SizeOf.sizeOf x
decreasing_by
 have:=List.sizeOf_lt_of_mem a.2;simp only[Ex.mk.sizeOf_spec];omega
theorem za0 {α:Type} (F:Int→Str→Vl→Str→List (Ex×α)→α) (k:Int) (nm:Str) (v:Vl) (op:Str) (xs:List Ex) :
 foldE F (.mk k nm v op xs)=F k nm v op (xs.map fun a=>(a,foldE F a)):=by
 rw[foldE];congr 1
 exact List.attach_map_val (f:=fun a:Ex=>(a,foldE F a))
def zaH (op:Str):Nat:=if op=sOr then 1 else if op=sAnd then 2 else if op∈zcr then 4 else if op∈zbZ then 5 else if op∈zbp then 6 else 0
def rankE (x:Ex):Nat:=if x.k=4 then zaH x.op else if x.k=3 then (if x.op=sNot then 3 else 7) else if x.k=2∧x.v.n<0 then 7 else 8
def posC (x:Ex):Prop:=x.k=2∧x.v.k=1∧0<x.v.n
instance (x:Ex):Decidable (posC x):=by unfold posC;infer_instance
def leftR (op:Str):Nat:=if zaH op=4 then 5 else zaH op
def showV (v:Vl):Str:=Va.showL v.k v.n ⟨v.t.toArray⟩
def wiT (least:Nat) (p:Ex×Str):Str:=if rankE p.1<least then 40::(p.2++[41]) else p.2
def miT (p:Ex×Str):Str:=if posC p.1 then 40::(p.2++[41]) else wiT 7 p
def joinS (sep:Str):List Str→Str
 | []=>[]
 | [a]=>a
 | a::b::r=>a++(sep++joinS sep (b::r))
def textF (k:Int) (nm:Str) (v:Vl) (op:Str) (l:List (Ex×Str)):Str :=
 if k=1 then nm else if k=2 then showV v
 else if k=3 then (match l with|[p]=>if op=sNot then sNot++32::wiT 3 p else op++miT p|_=>[])
 else if k=4 then (match l with|[p,q]=>wiT (leftR op) p++(32::(op++32::wiT (zaH op+1) q))|_=>[])
 else if k=5 then nm++40::(joinS [44,32] (l.map (·.2))++[41]) else []
def textE:Ex→Str:=foldE textF
def wiD (least:Nat) (p:Ex×Nat):Nat:=if rankE p.1<least then p.2+1 else p.2
def miD (p:Ex×Nat):Nat:=if posC p.1 then p.2+1 else wiD 7 p
def maxL:List Nat→Nat
 | []=>0
 | a::r=>max a (maxL r)
theorem znn {l:List Nat} {n:Nat}:maxL l≤n↔∀ a∈l,a≤n:=by
 induction l with
 | nil=>simp[maxL]
 | cons a r ih =>
  rw[show maxL (a::r)=max a (maxL r) from rfl,Nat.max_le,ih];simp
def deepF (k:Int) (nm:Str) (v:Vl) (op:Str) (l:List (Ex×Nat)):Nat :=
 if k=3 then (match l with|[p]=>(if op=sNot then wiD 3 p else miD p)+1|_=>0)
 else if k=4 then (match l with|[p,q]=>max (wiD (leftR op) p) (wiD (zaH op+1) q)|_=>0)
 else if k=5 then maxL (l.map fun p=>p.2+1) else 0
def deepE:Ex→Nat:=foldE deepF
def deepR (least:Nat) (x:Ex):Nat:=wiD least (x,deepE x)
def wiW (least:Nat) (p:Ex×Nat):Nat:=if rankE p.1<least then p.2+4 else p.2
def miW (p:Ex×Nat):Nat:=if posC p.1 then p.2+4 else wiW 7 p
def zft (v:Vl):Nat :=
 if v.k=1 then (if v.n<0 then (Lib.itoa (-v.n)).length+3 else (Lib.itoa v.n).length+1) else if v.k=2 then (Va.quotedL v.t).length+1 else 5
def zqQ (k:Int) (nm:Str) (v:Vl) (op:Str) (l:List (Ex×Nat)):Nat :=
 if k=1 then nm.length+1 else if k=2 then zft v
 else if k=3 then (match l with|[p]=>if op=sNot then wiW 3 p+4 else miW p+2|_=>0)
 else if k=4 then (match l with|[p,q]=>wiW (leftR op) p+(op.length+1)+wiW (zaH op+1) q|_=>0)
 else if k=5 then nm.length+3+(l.map fun p=>p.2+2).sum else 0
def zbb:Ex→Nat:=foldE zqQ
def zbV (least:Nat) (x:Ex):Nat:=wiW least (x,zbb x)
def zdk (n:Str):Prop:=TokOk ⟨1,n,0,0⟩∧n≠sAnd∧n≠sOr∧n≠sNot∧n≠sNull
inductive OkE:Ex→Prop
 | col (n:Str) (h:zdk n):OkE (zax n)
 | null:OkE (zam zV)
 | num (n:Int) (h0:-9223372036854775807≤n) (h1:n≤9223372036854775807):OkE (zam ⟨1,n,[]⟩)
 | txt (t:Str) (h:TokOk ⟨3,t,0,0⟩):OkE (zam ⟨2,0,t⟩)
 | not (a:Ex) (h:OkE a):OkE (zat sNot a)
 | neg (a:Ex) (h:OkE a):OkE (zat [45] a)
 | bin (op:Str) (a b:Ex) (ho:zaH op≠0) (ha:OkE a) (hb:OkE b):OkE (zaj op a b)
 | call (n:Str) (xs:List Ex) (h:zdk n) (h0:xs≠[]) (hx:∀ a∈xs,OkE a):OkE (callE n xs)
theorem zij (n:Str):textE (zax n)=n:=by unfold textE zax;rw[za0];rfl
theorem zcu (v:Vl):textE (zam v)=showV v:=by unfold textE zam;rw[za0];rfl
theorem zih (a:Ex):textE (zat sNot a)=sNot++32::wiT 3 (a,textE a):=by unfold textE zat;rw[za0];rfl
theorem zii (a:Ex):textE (zat [45] a)=[45]++miT (a,textE a):=by unfold textE zat;rw[za0];rfl
theorem zik (op:Str) (a b:Ex):textE (zaj op a b)=wiT (leftR op) (a,textE a)++(32::(op++32::wiT (zaH op+1) (b,textE b))):=by unfold textE zaj;rw[za0];rfl
theorem zgI (n:Str) (xs:List Ex):textE (callE n xs)=n++40::(joinS [44,32] (xs.map textE)++[41]):=by
 unfold textE callE;rw[za0];show n++40::(joinS [44,32] ((xs.map fun a=>(a,foldE textF a)).map (·.2))++[41])=_
 rw[List.map_map];rfl
theorem zdZ (n:Str):deepE (zax n)=0:=by unfold deepE zax;rw[za0];rfl
theorem zcB (v:Vl):deepE (zam v)=0:=by unfold deepE zam;rw[za0];rfl
theorem zgx (a:Ex):deepE (zat sNot a)=deepR 3 a+1:=by unfold deepE zat;rw[za0];rfl
theorem zjb (a:Ex):deepE (zat [45] a)=miD (a,deepE a)+1:=by unfold deepE zat;rw[za0];rfl
theorem zeY (op:Str) (a b:Ex):deepE (zaj op a b)=max (deepR (leftR op) a) (deepR (zaH op+1) b):=by unfold deepE zaj;rw[za0];rfl
theorem zhk (n:Str) (xs:List Ex):deepE (callE n xs)=maxL (xs.map fun a=>deepE a+1):=by
 unfold deepE callE;rw[za0];show maxL ((xs.map fun a=>(a,foldE deepF a)).map fun p=>p.2+1)=_
 rw[List.map_map];rfl
theorem zfI (n:Str):rankE (zax n)=8:=rfl
theorem zeK (n:Str) (xs:List Ex):rankE (callE n xs)=8:=rfl
theorem zdc (a:Ex):rankE (zat sNot a)=3:=by unfold rankE zat;simp[Ex.k,Ex.op]
theorem zdd (a:Ex):rankE (zat [45] a)=7:=by unfold rankE zat;simp[Ex.k,Ex.op,sNot]
theorem zcp (op:Str) (a b:Ex):rankE (zaj op a b)=zaH op:=by unfold rankE zaj;simp[Ex.k,Ex.op]
theorem zcf (v:Vl):rankE (zam v)=if v.n<0 then 7 else 8:=by unfold rankE zam;simp[Ex.k,Ex.v]
theorem zeL (op:Str):zaH op≤6:=by unfold zaH;split;omega;split;omega;split;omega;split;omega;split<;>omega
theorem OkE.rank {x:Ex} (h:OkE x):1≤rankE x∧rankE x≤8:=by
 cases h with
 | col n h=>rw[zfI];omega
 | null=>rw[zcf];split<;>omega
 | num n h0 h1=>rw[zcf];split<;>omega
 | txt t h=>rw[zcf];split<;>omega
 | not a h=>rw[zdc];omega
 | neg a h=>rw[zdd];omega
 | bin op a b ho ha hb=>rw[zcp];have:=zeL op;omega
 | call n xs h h0 hx=>rw[zeK];omega
theorem zbr {r:Nat} {x:Ex} (h:r≤rankE x):deepR r x=deepE x:=by unfold deepR wiD;simp only;rw[if_neg (by omega)]
theorem zmZ {x:Ex} (h:posC x):rankE x=8:=by
 obtain ⟨h1,_,h3⟩:=h;unfold rankE;rw[if_neg (by rw[h1];decide),if_neg (by rw[h1];decide),if_neg (by omega)]
def AllOk (s:Ps):Prop:=∀ t∈s.T,TokOk t
def Wt (s:Ps):Nat:=((s.T.drop s.i).map fun t=>(sh t).length+1).sum
def Rd (r n m:Nat) (f:PE):Prop:=∀ s,AllOk s→(f s).2.e=0→OkE (f s).1∧deepR r (f s).1+m≤n∧zbV r (f s).1+Wt (f s).2≤Wt s
def Ng (n m:Nat) (f:PE):Prop:=∀ s,AllOk s→(f s).2.e=0→posC (f s).1→¬ ((peekP s).k=2∧0<(peekP s).n)→m<n∧zbb (f s).1+4+Wt (f s).2≤Wt s
structure RdD (n:Nat) (D:Dp):Prop where
 dor:Rd 1 n 1 D.dor
 dnot:Rd 3 n 1 D.dnot
 dminus:Rd 7 n 1 D.dminus
 ng:Ng n 1 D.dminus
 dparen:Rd 8 n 0 D.dparen
 pg:∀ s,AllOk s→(D.dparen s).2.e=0→0<n∧zbb (D.dparen s).1+4+Wt (D.dparen s).2≤Wt s
section
variable {D:Dp} {n:Nat} (g:GoesD D) (h:RdD n D)
include g h
end
end Go.Proofs.YtonkjhmkppeagaaGreatDoor.Pz
namespace Go.Proofs.YtonkjhmkppeagaaGreatDoor.Lx
open Go.Proofs.Tryz
open Go Go.RowKit Ba
abbrev Tk:=Int×List UInt8×Int
def tri (t:Tok):Tk:=(t.k,t.t,t.n)
def Fits (t:Tok) (y:List UInt8):Prop :=
 ∀ c,y.head?=some c→(t.k=1→wordB c=false)∧(t.k=2→digB c=false)∧(t.k=4→t.t=[60]∨t.t=[62]→c≠61)
theorem ziu {f:UInt8→Bool} {l y:List UInt8} (h:l.all f=true) (hy:∀ c,y.head?=some c→f c=false):runN f (l++y)=l.length:=zpo f l y h hy
theorem zll {a:UInt8} {l y:List UInt8} (hm:(a::l)∈sgL) (hy:∀ c,y.head?=some c→(a::l)=[60]∨(a::l)=[62]→c≠61):signN (a::l++y)=(a::l).length:=by
 cases y with
 | nil=>rw[List.append_nil];obtain ⟨a',l',e,_,_,_,_,f5⟩:=zfD _ hm;rw[e];exact f5
 | cons c y =>
  have hc:=hy c rfl;obtain ⟨a',l',e,_,_,_,_,f5⟩:=zfD _ hm;rw[← e]at f5
  cases l with
  | nil =>
   show (if zcX a c=true then 2 else if a∈zco then 1 else 0)=1
   have h1:a∈zco:=by
    have f5':(if a∈zco then 1 else 0)=1:=f5;apply Classical.byContradiction;intro hn;rw[if_neg hn]at f5';cases f5'
   have h2:zcX a c=false:=by
    unfold zcX;rw[yK];rintro (⟨e1,e2⟩|⟨e1,e2⟩|⟨e1,e2⟩|⟨e1,e2⟩)
    ·subst e1;revert h1;decide
    ·subst e1;exact hc (.inl rfl) e2
    ·subst e1;exact hc (.inr rfl) e2
    ·subst e1;revert h1;decide
   rw[h2,if_neg (by decide),if_pos h1]
  | cons b l =>
   have:signN (a::b::l++c::y)=signN (a::b::l):=rfl;rw[this];exact f5
theorem zo2 {t:Tok} (h:TokOk t) {y:List UInt8} (hy:Fits t y):(∃ b r,sh t=b::r∧tokB b=true)∧tok1 (sh t++y)=.ok t.k t.t t.n (sh t).length:=by
 have hh:=(zrb h (c:=32) (by decide) []).1;refine ⟨hh,?_⟩;obtain ⟨k,tt,n,p⟩:=t;rcases h with ⟨hk,hn,⟨b,r,ht,hb⟩,hall,h16⟩|⟨hk,ht,h0,h1⟩|⟨hk,hn,h64,hp⟩|⟨hk,hn,hm⟩
 ·simp only at hk hn ht hall h16;subst hk hn ht;have e:sh ⟨1,b::r,0,p⟩=b::r:=rfl;rw[e];have hr:runN wordB (b::r++y)=(b::r).length:=ziu hall fun c hc=>(hy c hc).1 rfl
  rw[List.cons_append]at hr ⊢;rw[zbt,if_pos hb,hr,if_neg (by omega),show b::(r++y)=(b::r)++y from rfl,List.take_left' rfl]
 ·simp only at hk ht h0 h1;subst hk ht;obtain ⟨u,rfl⟩:∃ u:Nat,n=u:=⟨n.toNat,by omega⟩;have e:sh ⟨2,[],(u:Int),p⟩=Lib.decDigits u:=by
   show (if (2:Int)=2 then Lib.itoa (u:Int) else _)=_
   rw[if_pos rfl,Lib.itoa_nonneg]
  rw[e];obtain ⟨b,r,hd,hdb⟩:=Nu.dec_cons u;have hdb':digB b=true:=hdb;have hall:=zj7 u;have hv:=zou u (by omega);have hz:¬ (b=48∧(b::r).length>1):=by
   rintro ⟨rfl,hl⟩;by_cases hu:1≤u
   ·obtain ⟨c',r',e',hc'⟩:=zkZ u hu;rw[hd]at e';injection e' with e1 e2
    exact hc' e1.symm
   ·obtain rfl:u=0:=by omega
    have:Lib.decDigits 0=[48]:=by decide +kernel
    rw[this]at hd;injection hd with _ e2
    subst e2;simp at hl
  rw[hd]at hall hv ⊢;have hr:runN digB (b::r++y)=(b::r).length:=ziu hall fun c hc=>(hy c hc).2.1 rfl
  have hlb:letB b=false:=by
   unfold digB at hdb';rw[yL]at hdb';unfold letB;rw[yK];omega
  rw[List.cons_append]at hr ⊢;rw[zbt,if_neg (by rw[hlb];decide),if_pos hdb',hr,if_neg hz,show b::(r++y)=(b::r)++y from rfl,List.take_left' rfl,hv,if_pos (by omega)]
 ·simp only at hk hn h64 hp;subst hk hn;have e:sh ⟨3,tt,0,p⟩=Va.quotedL tt:=by
   show (if (3:Int)=2 then _ else if (3:Int)=3 then Va.quotedL tt else _)=_
   rw[if_neg (by decide),if_pos rfl]
  rw[e];have hq:qTok (Va.esc tt++[34]++y)=some (tt,(Va.esc tt).length+1+1):=by
   unfold qTok;rw[yM,show [34]++y=34::y from rfl,zjA tt y hp];simp only;rw[if_pos h64]
  unfold Va.quotedL;rw[show (34::Va.esc tt++[34])++y=34::(Va.esc tt++[34]++y) from rfl,zbt,if_neg (by decide),if_neg (by decide),if_pos rfl,hq];simp
 ·simp only at hk hn hm;subst hk hn;have e:sh ⟨4,tt,0,p⟩=tt:=by
   show (if (4:Int)=2 then _ else if (4:Int)=3 then _ else tt)=_
   rw[if_neg (by decide),if_neg (by decide)]
  rw[e];obtain ⟨a,l,rfl,f1,f2,f3,f4,f5⟩:=zfD tt hm;have hs:=zll (y:=y) hm fun c hc=>(hy c hc).2.2 rfl
  rw[List.cons_append]at hs ⊢;rw[zbt,if_neg (by rw[f1];decide),if_neg (by rw[f2];decide),if_neg f3,hs,if_neg (by simp),show a::(l++y)=(a::l)++y from rfl,List.take_left' rfl]
def RdT (l:List UInt8) (ts:List Tk):Prop:=∀ p,∃ ts' q,lexL l p=(ts',q,0)∧ts'.map tri=ts
theorem RdT.nil:RdT [] []:=fun p=>⟨[],p,zc4 p,rfl⟩
theorem RdT.ws {c:UInt8} {l:List UInt8} {ts:List Tk} (hc:wsB c=true) (h:RdT l ts):RdT (c::l) ts:=fun p=>by
 obtain ⟨ts',q,e,hs⟩:=h (p+1);exact ⟨ts',q,by rw[zgX hc];exact e,hs⟩
theorem RdT.tok {t:Tok} {l:List UInt8} {ts:List Tk} (ht:TokOk t) (hf:Fits t l) (h:RdT l ts):RdT (sh t++l) (tri t::ts):=fun p=>by
 obtain ⟨ts',q,e,hs⟩:=h (p+(sh t).length);obtain ⟨⟨b,r,e1,hb⟩,h1⟩:=zo2 ht hf;refine ⟨⟨t.k,t.t,t.n,p⟩::ts',q,?_,by rw[List.map_cons,hs];rfl⟩;rw[e1]at h1 e ⊢;rw[List.cons_append]at h1 ⊢;rw[zgk hb h1 (by simp),show b::(r++l)=(b::r)++l from rfl,List.drop_left' rfl,e];rfl
def Cl (l:List UInt8):Prop:=∀ c,l.head?=some c→wordB c=false∧c≠61
theorem zfN {c:UInt8} (h:wordB c=false):digB c=false:=by
 unfold wordB at h;simp only[Bool.or_eq_false_iff]at h;exact h.1.2
theorem Cl.fits {l:List UInt8} (h:Cl l) (t:Tok):Fits t l:=fun c hc=>⟨fun _=>(h c hc).1,fun _=>zfN (h c hc).1,fun _ _=>(h c hc).2⟩
theorem Cl.nil:Cl []:=fun c h=>by cases h
theorem Cl.cons {c:UInt8} {l:List UInt8} (h:wordB c=false) (h2:c≠61):Cl (c::l):=fun c' h'=>by cases h';exact ⟨h,h2⟩
theorem zoc {x:List UInt8} {p:Nat} (h1:x≠[60]) (h2:x≠[62]) (l:List UInt8):Fits ⟨4,x,0,p⟩ l:=fun c _=>⟨fun h=>absurd h (by show ¬ (4:Int)=1;decide),fun h=>absurd h (by show ¬ (4:Int)=2;decide),fun _ h=>by rcases h with h|h;exact absurd h h1;exact absurd h h2⟩
theorem zob {x:List UInt8} {p:Nat} (l:List UInt8):Fits ⟨3,x,0,p⟩ l:=fun c _=>⟨fun h=>absurd h (by show ¬ (3:Int)=1;decide),fun h=>absurd h (by show ¬ (3:Int)=2;decide),fun h=>absurd h (by show ¬ (3:Int)=4;decide)⟩
theorem RdT.sign {x l:List UInt8} {ts:List Tk} (hx:x∈sgL) (h1:x≠[60]) (h2:x≠[62]) (h:RdT l ts):RdT (x++l) ((4,x,0)::ts) :=
 RdT.tok (t:=⟨4,x,0,0⟩) (.inr (.inr (.inr ⟨rfl,rfl,hx⟩))) (zoc h1 h2 l) h
theorem RdT.word {x l:List UInt8} {ts:List Tk} (hx:TokOk ⟨1,x,0,0⟩) (hl:∀ c,l.head?=some c→wordB c=false) (h:RdT l ts):RdT (x++l) ((1,x,0)::ts) :=
 RdT.tok (t:=⟨1,x,0,0⟩) hx (fun c hc=>⟨fun _=>hl c hc,fun h=>absurd h (by show ¬ (1:Int)=2;decide),fun h=>absurd h (by show ¬ (1:Int)=4;decide)⟩) h
theorem RdT.num {n:Int} {l:List UInt8} {ts:List Tk} (h0:0≤n) (h1:n≤9223372036854775807) (hl:∀ c,l.head?=some c→digB c=false) (h:RdT l ts):RdT (Lib.itoa n++l) ((2,[],n)::ts) :=
 RdT.tok (t:=⟨2,[],n,0⟩) (.inr (.inl ⟨rfl,rfl,h0,h1⟩)) (fun c hc=>⟨fun h=>absurd h (by show ¬ (2:Int)=1;decide),fun _=>hl c hc,fun h=>absurd h (by show ¬ (2:Int)=4;decide)⟩) h
theorem RdT.quo {x l:List UInt8} {ts:List Tk} (hx:TokOk ⟨3,x,0,0⟩) (h:RdT l ts):RdT (Va.quotedL x++l) ((3,x,0)::ts) :=
 RdT.tok (t:=⟨3,x,0,0⟩) hx (zob l) h
end Go.Proofs.YtonkjhmkppeagaaGreatDoor.Lx
namespace Go.Proofs.YtonkjhmkppeagaaGreatDoor.Pz
open Go.Proofs.Tryz
open Go Go.RowKit Lx
def wiK (least:Nat) (p:Ex×List Tk):List Tk:=if rankE p.1<least then (4,[40],0)::(p.2++[(4,[41],0)]) else p.2
def miK (p:Ex×List Tk):List Tk:=if posC p.1 then (4,[40],0)::(p.2++[(4,[41],0)]) else wiK 7 p
def joinK:List (List Tk)→List Tk
 | []=>[]
 | [a]=>a
 | a::b::r=>a++((4,[44],0)::joinK (b::r))
def zje (v:Vl):List Tk:=if v.k=1 then (if v.n<0 then [(4,[45],0),(2,[],-v.n)] else [(2,[],v.n)]) else if v.k=2 then [(3,v.t,0)] else [(1,sNull,0)]
def opK (op:Str):Tk:=(if op=sOr∨op=sAnd then 1 else 4,op,0)
def tkF (k:Int) (nm:Str) (v:Vl) (op:Str) (l:List (Ex×List Tk)):List Tk :=
 if k=1 then [(1,nm,0)] else if k=2 then zje v
 else if k=3 then (match l with|[p]=>if op=sNot then (1,sNot,0)::wiK 3 p else (4,[45],0)::miK p|_=>[])
 else if k=4 then (match l with|[p,q]=>wiK (leftR op) p++(opK op::wiK (zaH op+1) q)|_=>[])
 else if k=5 then (1,nm,0)::(4,[40],0)::(joinK (l.map (·.2))++[(4,[41],0)]) else []
def tkE:Ex→List Tk:=foldE tkF
def plK (least:Nat) (x:Ex):List Tk:=wiK least (x,tkE x)
theorem zfW (n:Str):tkE (zax n)=[(1,n,0)]:=by unfold tkE zax;rw[za0];rfl
theorem zcF (v:Vl):tkE (zam v)=zje v:=by unfold tkE zam;rw[za0];rfl
theorem zhv (a:Ex):tkE (zat sNot a)=(1,sNot,0)::plK 3 a:=by unfold tkE zat;rw[za0];rfl
theorem zjq (a:Ex):tkE (zat [45] a)=(4,[45],0)::miK (a,tkE a):=by unfold tkE zat;rw[za0];rfl
theorem zfX (op:Str) (a b:Ex):tkE (zaj op a b)=plK (leftR op) a++(opK op::plK (zaH op+1) b):=by unfold tkE zaj;rw[za0];rfl
theorem zhw (n:Str) (xs:List Ex):tkE (callE n xs)=(1,n,0)::(4,[40],0)::(joinK (xs.map tkE)++[(4,[41],0)]):=by
 unfold tkE callE;rw[za0];show (1,n,0)::(4,[40],0)::(joinK ((xs.map fun a=>(a,foldE tkF a)).map (·.2))++[(4,[41],0)])=_
 rw[List.map_map];rfl
theorem zcg {r:Nat} {x:Ex} (h:r≤rankE x):plK r x=tkE x:=by unfold plK wiK;simp only;rw[if_neg (by omega)]
theorem ziE {r:Nat} {x:Ex} (h:rankE x<r):plK r x=(4,[40],0)::(tkE x++[(4,[41],0)]):=by unfold plK wiK;simp only;rw[if_pos h]
theorem zh4 {r:Nat} {x:Ex} (h:rankE x<r):deepR r x=deepE x+1:=by unfold deepR wiD;simp only;rw[if_pos h]
theorem zhH {r:Nat} {x:Ex} (h:rankE x≠r):plK (r+1) x=plK r x:=by
 by_cases h2:rankE x<r
 ·rw[ziE h2,ziE (by omega)]
 ·rw[zcg (by omega),zcg (by omega)]
theorem zhi {r:Nat} {x:Ex} (h:rankE x≠r):deepR (r+1) x=deepR r x:=by
 by_cases h2:rankE x<r
 ·rw[zh4 h2,zh4 (by omega)]
 ·rw[zbr (by omega),zbr (by omega)]
def At (s:Ps) (ts:List Tk):Prop:=s.e=0∧(s.T.drop s.i).map tri=ts
def advN (s:Ps) (m:Nat):Ps:={ s with i:=s.i+m }
theorem zaB (s:Ps):advP s=advN s 1:=rfl
theorem zap (s:Ps) (a b:Nat):advN (advN s a) b=advN s (a+b):=by unfold advN;simp only[Nat.add_assoc]
theorem At.peek {s:Ps} {h:Tk} {r:List Tk} (a:At s (h::r)):tri (peekP s)=h∧At (advP s) r∧s.i<s.T.length:=by
 obtain ⟨h1,h2⟩:=a;have hi:s.i<s.T.length:=by
  apply Classical.byContradiction;intro hn;rw[List.drop_eq_nil_of_le (by omega)]at h2
  cases h2
 rw[List.drop_eq_getElem_cons hi,List.map_cons]at h2;obtain ⟨e1,e2⟩:=List.cons.inj h2;exact ⟨by rw[zjH h1 (yF hi)];exact e1,⟨h1,e2⟩,hi⟩
theorem At.app {s:Ps}:∀ {a b:List Tk},At s (a++b)→At (advN s a.length) b:=by
 intro a b h;obtain ⟨h1,h2⟩:=h;refine ⟨h1,?_⟩;show (s.T.drop (s.i+a.length)).map tri=b
 rw[← List.drop_drop,List.map_drop,h2,List.drop_left]
theorem At.nilK {s:Ps} (a:At s []):peekP s=zTok:=by
 obtain ⟨h1,h2⟩:=a;apply zhI;rw[List.map_eq_nil_iff,List.drop_eq_nil_iff]at h2;exact h2
def isK (ts:List Tk) (x:Str):Bool:=match ts with
 | []=>false
 | h::_=>decide ((h.1=1∨h.1=4)∧h.2.1=x)
theorem zc6 (k:Int) (x:Str) (n:Int) (r:List Tk) (y:Str):isK ((k,x,n)::r) y=decide ((k=1∨k=4)∧x=y):=rfl
theorem At.is {s:Ps} {ts:List Tk} (a:At s ts) (x:Str):isP s x=isK ts x:=by
 unfold isP
 cases ts with
 | nil =>
  rw[a.nilK];show decide ((zTok.k=1∨zTok.k=4)∧zTok.t=x)=false
  rw[yN];rintro ⟨h|h,_⟩<;>revert h<;>decide
 | cons h r =>
  have:=a.peek.1;subst this;rfl
def stopK (r:Nat) (ts:List Tk):Prop:=∀ o,isK ts o=true→zaH o<r∧o≠[40]
theorem stopK.mono {r r':Nat} {ts:List Tk} (h:stopK r ts) (hr:r≤r'):stopK r' ts:=fun o ho=>⟨Nat.lt_of_lt_of_le (h o ho).1 hr,(h o ho).2⟩
theorem zfZ (x:Str) (hx:zaH x=0) (h4:x≠[40]) (rest:List Tk):stopK 1 ((4,x,0)::rest):=fun o ho=>by
 unfold isK at ho;simp only[yL]at ho;obtain rfl:=ho.2;exact ⟨by omega,h4⟩
theorem zmt (op:Str) (ho:zaH op≠0) (rest:List Tk):stopK (zaH op+1) (opK op::rest):=fun o hk=>by
 unfold isK opK at hk;simp only[yL]at hk;obtain rfl:=hk.2;exact ⟨by omega,by rintro rfl;exact ho rfl⟩
theorem zhd:∀ {ops:List Str} {s:Ps},(∀ o∈ops,isP s o=false)→zaD ops s=none
 | [],s,h=>rfl
 | o::r,s,h=>by
  unfold zaD;rw[if_neg (by rw[h o (by simp)];decide),zhd (fun o ho=>h o (by simp[ho]))];rfl
theorem zfi {r:Nat} {ops:List Str} {s:Ps} {ts:List Tk} (a:At s ts) (h:stopK r ts) (ho:∀ o∈ops,r≤zaH o):zaD ops s=none :=
 zhd fun o hm=>by
  rw[a.is]
  cases hk:isK ts o with
  | false=>rfl
  | true=>have:=(h o hk).1;have:=ho o hm;omega
theorem zh0:∀ {ops:List Str} {s:Ps} {op:Str} {rest:List Tk},At s (opK op::rest)→op∈ops→∃ k,zaD ops s=some k∧ops.getD k []=op
 | o::r,s,op,rest,a,h=>by
  unfold zaD;have hi:∀ x,isP s x=decide (op=x):=fun x=>by
   rw[a.is];unfold isK opK;simp only;congr 1
   rw[eq_iff_iff];constructor
   ·exact fun h=>h.2
   ·exact fun h=>⟨by split<;>simp,h⟩
  rw[hi];by_cases e:op=o
  ·rw[if_pos (by rw[yL];exact e)];exact ⟨0,rfl,by subst e;rfl⟩
  ·rw[if_neg (by rw[yL];exact e)];obtain ⟨k,h1,h2⟩:=zh0 a (by rcases List.mem_cons.1 h with h|h;exact absurd h e;exact h);rw[h1];exact ⟨k+1,rfl,by simpa using h2⟩
def lay (D:Dp):Nat→PE
 | 1=>orL D
 | 2=>anL D
 | 3=>ntL D
 | 4=>cmL D
 | 5=>smL D
 | 6=>pdL D
 | 7=>mnL D
 | _=>prL D
def opsR:Nat→List Str
 | 1=>[sOr]
 | 2=>[sAnd]
 | 5=>zbZ
 | _=>zbp
def zdy (r:Nat):Prop:=r=1∨r=2∨r=5∨r=6
theorem ziT {r:Nat} (h:zdy r) (D:Dp):lay D r=zaA (lay D (r+1)) (opsR r):=by
 rcases h with rfl|rfl|rfl|rfl<;>rfl
theorem zkJ {r:Nat} (h:zdy r):∀ o∈opsR r,zaH o=r:=by
 rcases h with rfl|rfl|rfl|rfl<;>decide
theorem zrU {op:Str} (h:zdy (zaH op)):op∈opsR (zaH op):=by
 unfold zaH at h ⊢;split at h
 ·rename_i e;rw[if_pos e,e];decide
 rename_i e1
 split at h
 ·rename_i e;rw[if_neg e1,if_pos e,e];decide
 rename_i e2
 split at h
 ·rcases h with h|h|h|h<;>omega
 rename_i e3
 split at h
 ·rename_i e;rw[if_neg e1,if_neg e2,if_neg e3,if_pos e];exact e
 rename_i e4
 split at h
 ·rename_i e;rw[if_neg e1,if_neg e2,if_neg e3,if_neg e4,if_pos e];exact e
 ·rcases h with h|h|h|h<;>omega
theorem zrV {op:Str} (h:zaH op=4):op∈zcr:=by
 unfold zaH at h;split at h
 ·omega
 split at h
 ·omega
 split at h
 ·assumption
 split at h
 ·omega
 split at h<;>omega
def S1 (r:Nat) (x:Ex) (n:Nat):Prop:=∀ s rest,At s (plK r x++rest)→stopK r rest→deepR r x≤n→lay (deepN n) r s=(x,advN s (plK r x).length)
def S2 (r:Nat) (x:Ex) (n:Nat):Prop:=∀ s rest,At s (plK r x++rest)→stopK (r+1) rest→deepR r x≤n→
 ∃ f,lay (deepN n) r s=zaM (lay (deepN n) (r+1)) (opsR r) f x (advN s (plK r x).length)∧s.T.length<f+(s.i+(plK r x).length)
theorem zgf {n:Str} (h:zdk n) (x:Str) (hx:∀ c r,x=c::r→letB c=false):n≠x:=by
 rintro rfl;rcases h.1 with ⟨_,_,⟨c,r,e,hl⟩,_⟩|⟨h1,_⟩|⟨h1,_⟩|⟨h1,_⟩
 ·rw[hx c r e]at hl;cases hl
 ·exact absurd h1 (by show ¬ (1:Int)=2;decide)
 ·exact absurd h1 (by show ¬ (1:Int)=3;decide)
 ·exact absurd h1 (by show ¬ (1:Int)=4;decide)
theorem zd9 {n x:Str} (h:n≠x) (t:List Tk):isK ((1,n,0)::t) x=false:=by
 unfold isK;simp only[yK];exact fun e=>h e.2
def zq3 (r:Nat) (x:Ex) (h:Tk):Prop:=(4≤r→isK [h] sNot=false)∧(8≤r→isK [h] [45]=false)∧(¬ posC x→7≤r→¬ (h.1=2∧0<h.2.2))
theorem zjp:∀ x,OkE x→∀ r,∃ h t,plK r x=h::t∧zq3 r x h:=by
 intro x;refine Ex.ind (P:=fun x=>OkE x→∀ r,∃ h t,plK r x=h::t∧zq3 r x h) ?_ x;intro k nm v op xs ih ok r;by_cases hr:rankE (.mk k nm v op xs)<r
 ·rw[ziE hr];exact ⟨_,_,rfl,fun _=>by decide,fun _=>by decide,fun _ _ h=>absurd h.1 (by decide)⟩
 rw[zcg (by omega)];generalize hx:Ex.mk k nm v op xs=x at ok hr ⊢
 cases ok with
 | col n h =>
  rw[zfW];exact ⟨_,_,rfl,fun _=>zd9 h.2.2.2.1 _,fun _=>zd9 (zgf h [45] (fun c r e=>by cases e;decide)) _,fun _ _ e=>absurd e.1 (by show ¬ (1:Int)=2;decide)⟩
 | null =>
  rw[zcF];exact ⟨(1,sNull,0),[],rfl,fun _=>by decide,fun _=>by decide,fun _ _ e=>absurd e.1 (by decide)⟩
 | num n h0 h1 =>
  rw[zcF];unfold zje;rw[if_pos rfl];rw[zcf]at hr;split
  ·rename_i hn
   rw[if_pos hn]at hr;exact ⟨_,_,rfl,fun _=>by decide,fun h8=>by omega,fun _ _ e=>absurd e.1 (by decide)⟩
  ·rename_i hn
   exact ⟨_,_,rfl,fun _=>by unfold isK;simp,fun _=>by unfold isK;simp,fun hp _ e=>hp ⟨rfl,rfl,e.2⟩⟩
 | txt t h =>
  rw[zcF];exact ⟨(3,t,0),[],rfl,fun _=>by unfold isK;simp,fun _=>by unfold isK;simp,fun _ _ e=>absurd e.1 (by show ¬ (3:Int)=2;decide)⟩
 | not a h =>
  rw[zdc]at hr;rw[zhv];exact ⟨_,_,rfl,fun h4=>by omega,fun h4=>by omega,fun _ _ e=>absurd e.1 (by decide)⟩
 | neg a h =>
  rw[zdd]at hr;rw[zjq];exact ⟨_,_,rfl,fun _=>by decide,fun h4=>by omega,fun _ _ e=>absurd e.1 (by decide)⟩
 | bin op' a b ho ha hb =>
  rw[zcp]at hr;have h6:=zeL op';rw[zfX];obtain ⟨h,t,e1,e2,e3,e4⟩:=ih a (by cases hx;simp) ha (leftR op');rw[e1];refine ⟨h,_,rfl,fun h4=>e2 ?_,fun h8=>by omega,fun _ h7=>by omega⟩;unfold leftR;split<;>omega
 | call n xs' h h0 hxs =>
  rw[zhw];exact ⟨_,_,rfl,fun _=>zd9 h.2.2.2.1 _,fun _=>zd9 (zgf h [45] (fun c r e=>by cases e;decide)) _,fun _ _ e=>absurd e.1 (by show ¬ (1:Int)=2;decide)⟩
theorem desc0 {n r:Nat} {s s':Ps} {x:Ex} {ts rest:List Tk} (h1:1≤r) (h7:r≤7) (a:At s ts) (hn:r=3→isK ts sNot=false) (hm:r=7→isK ts [45]=false)
 (hs:lay (deepN n) (r+1) s=(x,s')) (a2:At s' rest) (st:stopK r rest):lay (deepN n) r s=(x,s'):=by
 have hch:∀ (_:zdy r),lay (deepN n) r s=(x,s'):=fun hc=>by
  rw[ziT hc];show zaM _ _ _ _ _=_
  rw[hs];exact zdx (zfi a2 st (fun o ho=>Nat.le_of_eq (zkJ hc o ho).symm))
 rcases (by omega:r=1∨r=2∨r=3∨r=4∨r=5∨r=6∨r=7) with rfl|rfl|rfl|rfl|rfl|rfl|rfl
 ·exact hch (.inl rfl)
 ·exact hch (.inr (.inl rfl))
 ·show notP (deepN n).dnot (cmL (deepN n)) s=_
  unfold notP;rw[if_neg (by rw[a.is,hn rfl];decide)];exact hs
 ·show zbw (smL (deepN n)) s=_
  unfold zbw;change (smL (deepN n)) s=_ at hs
  rw[hs];simp only;rw[zfi a2 st (by decide)]
 ·exact hch (.inr (.inr (.inl rfl)))
 ·exact hch (.inr (.inr (.inr rfl)))
 ·show zca (deepN n).dminus (prL (deepN n)) s=_
  unfold zca;rw[if_neg (by rw[a.is,hm rfl];decide)];exact hs
theorem desc {x:Ex} (ok:OkE x) {r n:Nat} (h1:1≤r) (h7:r≤7) (hr:rankE x≠r) (h:S1 (r+1) x n):S1 r x n:=by
 intro s rest a st d;have e1:=zhH hr;have e2:=zhi hr;have hs:=h s rest (by rw[e1];exact a) (st.mono (Nat.le_succ r)) (by rw[e2];exact d);rw[e1]at hs;obtain ⟨hh,t,e3,e4,e5,_⟩:=zjp x ok (r+1);rw[e1]at e3;refine desc0 h1 h7 a (fun h3=>?_) (fun h3=>?_) hs a.app st
 ·rw[e3];exact e4 (by omega)
 ·rw[e3];exact e5 (by omega)
theorem par {x:Ex} {n:Nat} (h:∀ s rest,At s (tkE x++rest)→stopK 1 rest→lay (deepN n) 1 s=(x,advN s (tkE x).length)) :
 ∀ s rest,At s ((4,[40],0)::(tkE x++(4,[41],0)::rest))→prL (deepN (n+1)) s=(x,advN s ((tkE x).length+2)):=by
 intro s rest a;obtain ⟨p1,p2,p3⟩:=a.peek;show primP (deepN (n+1)).dor (deepN (n+1)).dparen s=_
 have k4:(peekP s).k=4:=congrArg (·.1) p1;have t4:(peekP s).t=[40]:=congrArg (·.2.1) p1;unfold primP;rw[if_neg (by rw[k4];decide),if_neg (by rw[k4];decide),if_neg (by rw[a.is];unfold isK;simp[sNull]),if_pos (by rw[a.is];unfold isK;simp)];show zb9 (orL (deepN n)) s=_
 unfold zb9;have hw:wantP [40] s=advP s:=by unfold wantP;rw[if_pos (by rw[a.is];unfold isK;simp)]
 rw[hw];have hx:=h (advP s) _ p2 (zfZ [41] (by decide) (by decide) rest);change orL (deepN n) (advP s)=_ at hx
 rw[hx];simp only;have a3:=p2.app;have hw2:wantP [41] (advN (advP s) (tkE x).length)=advP (advN (advP s) (tkE x).length):=by unfold wantP;rw[if_pos (by rw[a3.is];unfold isK;simp)]
 rw[hw2,zaB,zaB,zap,zap];congr 2;omega
theorem ztO {x:Ex} (ok:OkE x) (own:∀ n,S1 (rankE x) x n):∀ n r,1≤r→r≤8→S1 r x n:=by
 obtain ⟨k1,k8⟩:=ok.rank;have down:∀ n j r,r+j=rankE x→1≤r→S1 r x n:=by
  intro n j;induction j with
  | zero=>intro r e h1;rw[show r=rankE x from by omega];exact own n
  | succ j ih=>intro r e h1;exact desc ok h1 (by omega) (by omega) (ih (r+1) (by omega) (by omega))
 have one:∀ n s rest,At s (tkE x++rest)→stopK 1 rest→deepE x≤n→lay (deepN n) 1 s=(x,advN s (tkE x).length):=fun n s rest a st d=>by
  have:=down n (rankE x-1) 1 (by omega) (yG _) s rest (by rw[zcg k1];exact a) st (by rw[zbr k1];exact d);rw[zcg k1]at this;exact this
 have up:∀ n j r,r+j=8→rankE x<r→S1 r x n:=by
  intro n j;induction j with
  | zero =>
   intro r e h1;obtain rfl:r=8:=by omega
   intro s rest a st d;rw[zh4 h1]at d;rw[ziE h1]at a ⊢
   cases n with
   | zero=>omega
   | succ n =>
    rw[List.cons_append,yM]at a;have:=par (fun s rest a st=>one n s rest a st (by omega)) s rest a;show prL (deepN (n+1)) s=_
    rw[this];congr 2
    simp only[yB,yA,List.length_nil]
  | succ j ih=>intro r e h1;exact desc ok (by omega) (by omega) (by omega) (ih (r+1) (by omega) (by omega))
 intro n r h1 h8;by_cases hr:r≤rankE x
 ·exact down n (rankE x-r) r (by omega) h1
 ·exact up n (8-r) r (by omega) (by omega)
theorem s2_of {x:Ex} {r n:Nat} (hc:zdy r) (hr:rankE x≠r) (h:S1 (r+1) x n):S2 r x n:=fun s rest a st d=>by
 have hs:=h s rest (by rw[zhH hr];exact a) st (by rw[zhi hr];exact d);rw[zhH hr]at hs;refine ⟨s.T.length+1,?_,by omega⟩;rw[ziT hc];show zaM _ _ _ _ _=_
 rw[hs]
theorem zta {x:Ex} {r n:Nat} (hc:zdy r) (h:S2 r x n):S1 r x n:=fun s rest a st d=>by
 obtain ⟨f,h1,h2⟩:=h s rest a (st.mono (Nat.le_succ r)) d;rw[h1];exact zdx (zfi a.app st (fun o ho=>Nat.le_of_eq (zkJ hc o ho).symm))
def Good (x:Ex):Prop:=OkE x→∀ n,(∀ r,1≤r→r≤8→S1 r x n)∧(∀ r,zdy r→S2 r x n)
theorem zfe {x:Ex} (h:OkE x→(∀ n,S1 (rankE x) x n)∧(∀ n,zdy (rankE x)→S2 (rankE x) x n)):Good x:=fun ok n=>by
 obtain ⟨h1,h2⟩:=h ok;have all:=ztO ok h1;refine ⟨all n,fun r hc=>?_⟩;by_cases hr:rankE x=r
 ·subst hr;exact h2 n hc
 ·exact s2_of hc hr (all n (r+1) (by omega) (by rcases hc with h|h|h|h<;>omega))
theorem zed {r:Nat} (h:zdy r):r≤6∧1≤r∧r≠4:=by rcases h with h|h|h|h<;>omega
theorem zp8 {op:Str} {a b:Ex} (ho:zaH op≠0) (oa:OkE a) (ob:OkE b) (ga:Good a) (gb:Good b):Good (zaj op a b):=by
 have h6:=zeL op;have two:∀ n,zdy (rankE (zaj op a b))→S2 (rankE (zaj op a b)) (zaj op a b) n:=fun n hc=>by
  rw[zcp]at hc ⊢;obtain ⟨c1,c2,c3⟩:=zed hc;intro s rest at' st d;have hl:leftR op=zaH op:=by unfold leftR;rw[if_neg c3]
  rw[zcg (by rw[zcp];exact yG _),zfX,hl]at at' ⊢;rw[zbr (by rw[zcp];exact yG _),zeY,hl,Nat.max_le]at d;rw[yM,List.cons_append]at at';obtain ⟨f,e1,e2⟩:=(ga oa n).2 _ hc s _ at' (zmt op ho _) d.1;have a2:=at'.app;obtain ⟨k,k1,k2⟩:=zh0 a2 (zrU hc);obtain ⟨p1,p2,p3⟩:=a2.peek;have hb:=(gb ob n).1 _ (by omega) (by omega) _ _ p2 st d.2;have p3':s.i+(plK (zaH op) a).length<s.T.length:=p3
  cases f with
  | zero=>omega
  | succ f =>
   refine ⟨f,?_,?_⟩
   ·rw[e1,zcV k1,hb,k2];simp only;rw[zaB,zap,zap];congr 2
    simp only[yA,yB];omega
   ·simp only[yA,yB];omega
 refine zfe fun ok=>⟨fun n=>?_,two⟩
 by_cases hc:zdy (rankE (zaj op a b))
 ·exact zta hc (two n hc)
 have h4:zaH op=4:=by
  rw[zcp]at hc;have h3:zaH op≠3:=by unfold zaH;split;omega;split;omega;split;omega;split;omega;split<;>omega
  by_cases h:zaH op=4
  ·exact h
  ·exfalso;apply hc;unfold zdy;omega
 rw[zcp,h4];intro s rest at' st d;have hl:leftR op=5:=by unfold leftR;rw[if_pos h4]
 rw[zcg (by rw[zcp,h4];exact yG _),zfX,hl]at at' ⊢;rw[zbr (by rw[zcp,h4];exact yG _),zeY,hl,Nat.max_le]at d;rw[yM,List.cons_append]at at';have e1:=(ga oa n).1 5 (by omega) (by omega) s _ at' ((zmt op ho _).mono (by omega)) d.1;have a2:=at'.app;obtain ⟨k,k1,k2⟩:=zh0 a2 (zrV h4);obtain ⟨p1,p2,p3⟩:=a2.peek;have hb:=(gb ob n).1 _ (by omega) (by omega) _ _ p2 (by rw[h4];exact st.mono (by omega)) d.2;show zbw (smL (deepN n)) s=_
 unfold zbw;change smL (deepN n) s=_ at e1
 rw[h4]at hb ⊢;change smL (deepN n) _=_ at hb
 rw[e1];simp only;rw[k1];simp only;rw[hb,k2];simp only;rw[zaB,zap,zap];congr 2
 simp only[yA,yB];omega
theorem zp5 {a:Ex} (oa:OkE a) (ga:Good a):Good (zat sNot a):=by
 refine zfe fun ok=>⟨fun n=>?_,fun n hc=>?_⟩
 ·rw[zdc];intro s rest at' st d;rw[zcg (by rw[zdc];exact yG _),zhv]at at' ⊢;rw[zbr (by rw[zdc];exact yG _),zgx]at d;rw[List.cons_append]at at';obtain ⟨p1,p2,p3⟩:=at'.peek;show notP (deepN n).dnot (cmL (deepN n)) s=_
  unfold notP;rw[if_pos (by rw[at'.is];unfold isK;simp)]
  cases n with
  | zero=>omega
  | succ n =>
   have e:=(ga oa n).1 3 (by omega) (by omega) _ _ p2 st (by omega);change ntL (deepN n) _=_ at e
   show (zat sNot (ntL (deepN n) (advP s)).1,(ntL (deepN n) (advP s)).2)=_
   rw[e];simp only;rw[zaB,zap];congr 2
   simp only[yB];omega
 ·rw[zdc]at hc;have:=(zed hc);rcases hc with h|h|h|h<;>omega
theorem zp6 {a:Ex} (oa:OkE a) (ga:Good a):Good (zat [45] a):=by
 refine zfe fun ok=>⟨fun n=>?_,fun n hc=>?_⟩
 ·rw[zdd];intro s rest at' st d;rw[zcg (by rw[zdd];exact yG _),zjq]at at' ⊢;rw[zbr (by rw[zdd];exact yG _),zjb]at d;rw[List.cons_append]at at';obtain ⟨p1,p2,p3⟩:=at'.peek;show zca (deepN n).dminus (prL (deepN n)) s=_
  unfold zca;rw[if_pos (by rw[at'.is];unfold isK;simp)]
  cases n with
  | zero=>omega
  | succ n =>
   by_cases hp:posC a
   ·have hm:miK (a,tkE a)=(4,[40],0)::(tkE a++[(4,[41],0)]):=by unfold miK;simp only;rw[if_pos hp]
    have hd:miD (a,deepE a)=deepE a+1:=by unfold miD;simp only;rw[if_pos hp]
    rw[hm]at p2 ⊢;rw[hd]at d;rw[List.cons_append,yM]at p2;obtain ⟨q1,q2,q3⟩:=p2.peek;have k4:(peekP (advP s)).k=4:=congrArg (·.1) q1;rw[if_neg (by rw[k4];rintro ⟨h,_⟩;revert h;decide)]
    cases n with
    | zero=>omega
    | succ n =>
     have r8:=zmZ hp;have e:=par (x:=a) (n:=n) (fun s rest at2 st2=>by
      have:=(ga oa n).1 1 (by omega) (by omega) s rest (by rw[zcg (by omega)];exact at2) st2 (by rw[zbr (by omega)];omega);rw[zcg (by omega)]at this;exact this) _ _ p2
     have e7:=desc0 (n:=n+1) (r:=7) (by omega) (by omega) p2 (fun h=>absurd h (by decide)) (fun _=>by unfold isK;simp) (s':=advN (advP s) ((tkE a).length+2)) (x:=a) (rest:=rest) e (by
      have:=At.app (s:=advP s) (a:=(4,[40],0)::(tkE a++[(4,[41],0)])) (b:=rest) (by rw[List.cons_append,yM];exact p2);rw[show ((4,[40],0)::(tkE a++[((4:Int),([41]:Str),(0:Int))])).length=(tkE a).length+2 from by simp]at this;exact this) st
     change mnL (deepN (n+1)) _=_ at e7
     show (zat [45] (mnL (deepN (n+1)) (advP s)).1,(mnL (deepN (n+1)) (advP s)).2)=_
     rw[e7];simp only;rw[zaB,zap];congr 2
     simp only[yB,yA,List.length_nil];omega
   ·have hm:miK (a,tkE a)=plK 7 a:=by unfold miK;simp only;rw[if_neg hp];rfl
    have hd:miD (a,deepE a)=deepR 7 a:=by unfold miD;simp only;rw[if_neg hp];rfl
    rw[hm]at p2 ⊢;rw[hd]at d;obtain ⟨hh,t,e1,e2,e3,e4⟩:=zjp a oa 7;have q:tri (peekP (advP s))=hh:=by
     have p2':=p2;rw[e1]at p2';exact p2'.peek.1
    have hq:=e4 hp (by omega);rw[← q]at hq;rw[if_neg (show ¬ ((peekP (advP s)).k=2∧0<(peekP (advP s)).n) from hq)];have e:=(ga oa n).1 7 (by omega) (by omega) _ _ p2 st (by omega);change mnL (deepN n) _=_ at e
    show (zat [45] (mnL (deepN n) (advP s)).1,(mnL (deepN n) (advP s)).2)=_
    rw[e];simp only;rw[zaB,zap];congr 2
    simp only[yB];omega
 ·rw[zdd]at hc;have:=(zed hc);omega
theorem zjM {r:Nat} (h:7≤r):¬ zdy r:=fun hc=>by have:=zed hc;omega
theorem zff {v:Vl} (hv:v=zV∨(v.k=1∧v.t=[])∨v.k=2∧v.n=0):Good (zam v):=by
 refine zfe fun ok=>⟨fun n=>?_,fun n hc=>?_⟩
 ·intro s rest at' st d;rw[zcg (yG _),zcF]at at' ⊢;rcases hv with rfl|⟨hk,ht⟩|⟨hk,hn⟩
  ·change At s ((1,sNull,0)::rest) at at'
   obtain ⟨p1,p2,p3⟩:=at'.peek;have k1:(peekP s).k=1:=congrArg (·.1) p1;show primP _ _ s=_
   unfold primP;rw[if_neg (by rw[k1];decide),if_neg (by rw[k1];decide),if_pos (by rw[at'.is,zc6];decide)];rfl
  ·obtain ⟨vk,vn,vt⟩:=v;subst hk ht;rw[zcf];unfold zje at at' ⊢;rw[if_pos rfl]at at' ⊢;by_cases hn:vn<0
   ·rw[if_pos hn]at at' ⊢;rw[if_pos hn];change At s ((4,[45],0)::(2,[],-vn)::rest) at at'
    obtain ⟨p1,p2,p3⟩:=at'.peek;obtain ⟨q1,q2,q3⟩:=p2.peek;have k2:(peekP (advP s)).k=2:=congrArg (·.1) q1;have n2:(peekP (advP s)).n=-vn:=congrArg (·.2.2) q1;show zca _ _ s=_
    unfold zca;rw[if_pos (by rw[at'.is,zc6];decide),if_pos (by rw[k2,n2];exact ⟨rfl,by omega⟩),n2,Int.neg_neg];rfl
   ·rw[if_neg hn]at at' ⊢;rw[if_neg hn];change At s ((2,[],vn)::rest) at at'
    obtain ⟨p1,p2,p3⟩:=at'.peek;have k2:(peekP s).k=2:=congrArg (·.1) p1;have n2:(peekP s).n=vn:=congrArg (·.2.2) p1;show primP _ _ s=_
    unfold primP;rw[if_pos k2,n2];rfl
  ·obtain ⟨vk,vn,vt⟩:=v;subst hk hn;change At s ((3,vt,0)::rest) at at'
   obtain ⟨p1,p2,p3⟩:=at'.peek;have k3:(peekP s).k=3:=congrArg (·.1) p1;have t3:(peekP s).t=vt:=congrArg (·.2.1) p1;show primP _ _ s=_
   unfold primP;rw[if_neg (by rw[k3];decide),if_pos k3,t3];rfl
 ·rw[zcf]at hc;exact absurd hc (zjM (by split<;>omega))
theorem ziB {f g:PE} {s:Ps} {n:Str} {rest:List Tk} (h:zdk n) (a:At s ((1,n,0)::rest)) :
 primP f g s=if isP (advP s) [40]=true then (callE n (listP (argP f) [] (advP (advP s))).1,wantP [41] (listP (argP f) [] (advP (advP s))).2) else (zax n,advP s):=by
 obtain ⟨p1,p2,p3⟩:=a.peek;have k1:(peekP s).k=1:=congrArg (·.1) p1;have t1:(peekP s).t=n:=congrArg (·.2.1) p1;unfold primP;rw[if_neg (by rw[k1];decide),if_neg (by rw[k1];decide),if_neg (by rw[a.is,zd9 h.2.2.2.2];decide),if_neg (by rw[a.is,zd9 (zgf h [40] (fun c r e=>by cases e;decide))];decide),
  if_neg (by rw[k1,t1];rintro (h'|h'|h'|h');exact h' rfl;exact h.2.1 h';exact h.2.2.1 h';exact h.2.2.2.1 h'),t1]
theorem zp7 {m:Str} (h:zdk m):Good (zax m):=by
 refine zfe fun ok=>⟨fun n=>?_,fun n hc=>?_⟩
 ·intro s rest at' st d;rw[zcg (yG _),zfW]at at' ⊢;change At s ((1,m,0)::rest) at at'
  show primP _ _ s=_
  rw[ziB h at',if_neg]
  ·rfl
  ·rw[at'.peek.2.1.is];intro hk;exact (st [40] hk).2 rfl
 ·rw[zfI]at hc;exact absurd hc (zjM (by omega))
theorem zji {D:Dp} {rest:List Tk}:∀ (xs:List Ex),(∀ x∈xs,∀ s r,At s (tkE x++r)→stopK 1 r→D.dor s=(x,advN s (tkE x).length))→
 ∀ (x0:Ex) (h0:∀ s r,At s (tkE x0++r)→stopK 1 r→D.dor s=(x0,advN s (tkE x0).length)) (fuel:Nat) (acc:List Ex) (s:Ps),At s (joinK ((x0::xs).map tkE)++(4,[41],0)::rest)→s.T.length<fuel+s.i→
  zaQ (argP D.dor) fuel (argP D.dor acc s).1 (argP D.dor acc s).2=(acc++x0::xs,advN s (joinK ((x0::xs).map tkE)).length)
 | [],_,x0,h0,fuel,acc,s,a,hf=>by
  change At s (tkE x0++(4,[41],0)::rest) at a
  have e:=h0 s _ a (zfZ [41] (by decide) (by decide) rest);unfold argP;rw[e];simp only;rw[zdG (by rw[a.app.is,zc6];decide)];rfl
 | x1::xs,hx,x0,h0,fuel,acc,s,a,hf=>by
  change At s ((tkE x0++((4,[44],0)::joinK ((x1::xs).map tkE)))++(4,[41],0)::rest) at a
  rw[yM,List.cons_append]at a;have e:=h0 s _ a (zfZ [44] (by decide) (by decide) _);have a2:=a.app;obtain ⟨p1,p2,p3⟩:=a2.peek;have p3':s.i+(tkE x0).length<s.T.length:=p3;have ih:=zji (rest:=rest) xs (fun x h=>hx x (by simp[h])) x1 (hx x1 (by simp)) (fuel-1) (acc++[x0]) _ p2 (by
   show s.T.length<fuel-1+(s.i+(tkE x0).length+1)
   omega)
  have e2:argP D.dor acc s=(acc++[x0],advN s (tkE x0).length):=by unfold argP;rw[e]
  rw[e2];simp only;obtain ⟨f,rfl⟩:∃ f,fuel=f+1:=⟨fuel-1,by omega⟩;rw[zcI (by rw[a2.is,zc6];decide)];rw[show f+1-1=f from rfl]at ih;rw[ih,yM];rw[zaB,zap,zap];congr 2
  show (tkE x0).length+(1+(joinK ((x1::xs).map tkE)).length)=(tkE x0++((4,[44],0)::joinK ((x1::xs).map tkE))).length
  simp only[yA,yB];omega
theorem zn5 {m:Str} {xs:List Ex} (h:zdk m) (h0:xs≠[]) (ok:∀ a∈xs,OkE a) (g:∀ a∈xs,Good a):Good (callE m xs):=by
 refine zfe fun _=>⟨fun n=>?_,fun n hc=>?_⟩
 ·intro s rest at' st d;rw[zcg (yG _),zhw]at at' ⊢;rw[zbr (yG _),zhk,znn]at d;have hd:∀ a∈xs,deepE a+1≤n:=fun a ha=>d _ (List.mem_map.2 ⟨a,ha,rfl⟩)
  change At s ((1,m,0)::(4,[40],0)::((joinK (xs.map tkE)++[(4,[41],0)])++rest)) at at'
  obtain ⟨p1,p2,p3⟩:=at'.peek;obtain ⟨q1,q2,q3⟩:=p2.peek;rw[yM]at q2;show primP (deepN n).dor _ s=_
  rw[ziB h at',if_pos (by rw[p2.is,zc6];decide)]
  cases xs with
  | nil=>exact absurd rfl h0
  | cons x0 xs =>
   have one:∀ x∈x0::xs,∀ s r,At s (tkE x++r)→stopK 1 r→(deepN n).dor s=(x,advN s (tkE x).length):=fun x hx s r a st=>by
    have hx1:=hd x hx;obtain ⟨k1,_⟩:=(ok x hx).rank
    cases n with
    | zero=>omega
    | succ n =>
     have:=(g x hx (ok x hx) n).1 1 (by omega) (by omega) s r (by rw[zcg k1];exact a) st (by rw[zbr k1];omega);rw[zcg k1]at this;exact this
   have e:=zji (D:=deepN n) (rest:=rest) xs (fun x hx=>one x (by simp[hx])) x0 (one x0 (by simp)) ((advP (advP s)).T.length+1) [] _ q2 (by omega);change listP (argP (deepN n).dor) [] (advP (advP s))=_ at e
   rw[e];simp only;have a3:=q2.app;have hw2:∀ z,At z ((4,[41],0)::rest)→wantP [41] z=advP z:=fun z hz=>by unfold wantP;rw[if_pos (by rw[hz.is,zc6];decide)]
   rw[hw2 _ a3,zaB,zaB,zaB,zap,zap,zap];congr 2
   simp only[yA,yB,List.length_nil];omega
 ·rw[zeK]at hc;exact absurd hc (zjM (by omega))
theorem zp9:∀ x,Good x:=by
 intro x;refine Ex.ind (P:=Good) ?_ x;intro k nm v op xs ih ok;generalize hx:Ex.mk k nm v op xs=x at ok;have ok2:=ok
 cases ok with
 | col n h=>exact zp7 h ok2
 | null=>exact zff (.inl rfl) ok2
 | num n h0 h1=>exact zff (.inr (.inl ⟨rfl,rfl⟩)) ok2
 | txt t h=>exact zff (.inr (.inr ⟨rfl,rfl⟩)) ok2
 | not a h=>exact zp5 h (ih a (by cases hx;simp)) ok2
 | neg a h=>exact zp6 h (ih a (by cases hx;simp)) ok2
 | bin op' a b ho ha hb=>exact zp8 ho ha hb (ih a (by cases hx;simp)) (ih b (by cases hx;simp)) ok2
 | call n xs' h h0 hxs=>exact zn5 h h0 hxs (fun a ha=>ih a (by cases hx;exact ha)) ok2
theorem ze4 {x:Ex} (ok:OkE x) (d:deepE x+1≤32) {s:Ps} {rest:List Tk} (a:At s (tkE x++rest)) (st:stopK 1 rest):zak s=(x,advN s (tkE x).length):=by
 obtain ⟨k1,_⟩:=ok.rank;have:=(zp9 x ok 31).1 1 (by omega) (by omega) s rest (by rw[zcg k1];exact a) st (by rw[zbr k1];omega);rw[zcg k1]at this;exact this
theorem ziY {n:Int} (h:n<0):Lib.itoa n=45::Lib.itoa (-n):=by
 unfold Lib.itoa;rw[if_pos h,if_neg (by omega)];congr 2
 omega
theorem zgK:showV zV=sNull:=by decide +kernel
theorem zio (n:Int):showV ⟨1,n,[]⟩=Lib.itoa n:=by
 unfold showV Va.showL;have:Va.rightB 1 n ⟨([]:Str).toArray⟩=true:=by unfold Va.rightB;simp
 simp only[this,if_true];rfl
theorem zf1 {t:Str} (h:TokOk ⟨3,t,0,0⟩):showV ⟨2,0,t⟩=Va.quotedL t:=by
 have ht:t.length≤64∧∀ c∈t,32≤c.toNat∧c.toNat≤126:=by
  rcases h with ⟨h1,_⟩|⟨h1,_⟩|⟨_,_,h2,h3⟩|⟨h1,_⟩
  ·exact absurd h1 (by show ¬ (3:Int)=1;decide)
  ·exact absurd h1 (by show ¬ (3:Int)=2;decide)
  ·exact ⟨h2,h3⟩
  ·exact absurd h1 (by show ¬ (3:Int)=4;decide)
 unfold showV Va.showL;have hr:Va.rightB 2 0 ⟨t.toArray⟩=true:=by
  unfold Va.rightB Va.plainB;rw[if_neg (by decide),if_neg (by decide),if_pos rfl];simp only[Bool.and_eq_true,yL];refine ⟨trivial,?_,?_⟩
  ·rw[List.all_eq_true];intro c hc;have:=ht.2 c (by simpa using hc);unfold Va.okByte;simp;omega
  ·show t.toArray.size≤64
   simp;exact ht.1
 simp only[hr,if_true];rfl
theorem zcN {c:UInt8} {l:List UInt8} (h:wordB c=false) (h2:c≠61):Cl (c::l):=Cl.cons h h2
theorem zgq {c:UInt8} {l:List UInt8} (h:wordB c=false):∀ d,(c::l).head?=some d→wordB d=false:=fun d hd=>by cases hd;exact h
def Wr (x:Ex):Prop:=∀ r ts,RdT r ts→Cl r→RdT (textE x++r) (tkE x++ts)
theorem zfy {x:Ex} (h:Wr x) (k:Nat) {r:List UInt8} {ts:List Tk} (hr:RdT r ts) (hc:Cl r):RdT (wiT k (x,textE x)++r) (plK k x++ts):=by
 unfold wiT;simp only;by_cases hk:rankE x<k
 ·rw[if_pos hk,ziE hk];rw[show (40::(textE x++[41]))++r=[40]++(textE x++([41]++r)) by simp,show ((4,[40],0)::(tkE x++[(4,[41],0)]))++ts=(4,[40],0)::(tkE x++((4,[41],0)::ts)) by simp];refine RdT.sign (x:=[40]) (by decide) (by decide) (by decide) ?_;exact h _ _ (RdT.sign (x:=[41]) (by decide) (by decide) (by decide) hr) (zcN (by decide) (by decide))
 ·rw[if_neg hk,zcg (by omega)];exact h r ts hr hc
theorem zoZ {x:Ex} (h:Wr x) {r:List UInt8} {ts:List Tk} (hr:RdT r ts) (hc:Cl r):RdT (miT (x,textE x)++r) (miK (x,tkE x)++ts):=by
 unfold miT miK;by_cases hk:posC x
 ·simp only;rw[if_pos hk,if_pos hk];rw[show (40::(textE x++[41]))++r=[40]++(textE x++([41]++r)) by simp,show ((4,[40],0)::(tkE x++[(4,[41],0)]))++ts=(4,[40],0)::(tkE x++((4,[41],0)::ts)) by simp];refine RdT.sign (x:=[40]) (by decide) (by decide) (by decide) ?_;exact h _ _ (RdT.sign (x:=[41]) (by decide) (by decide) (by decide) hr) (zcN (by decide) (by decide))
 ·simp only;rw[if_neg hk,if_neg hk];exact zfy h 7 hr hc
theorem zth {op:Str} (h:zaH op≠0) {r:List UInt8} {ts:List Tk} (hr:RdT r ts):RdT (op++32::r) (opK op::ts):=by
 have hb:RdT (32::r) ts:=hr.ws (by decide);unfold opK;by_cases h1:op=sOr∨op=sAnd
 ·rw[if_pos h1];refine RdT.word ?_ (zgq (by decide)) hb;rcases h1 with rfl|rfl
  ·exact .inl ⟨rfl,rfl,⟨111,[114],rfl,by decide⟩,by decide,by decide⟩
  ·exact .inl ⟨rfl,rfl,⟨97,[110,100],rfl,by decide⟩,by decide,by decide⟩
 ·rw[if_neg h1];have hm:op∈sgL:=by
   unfold zaH at h;split at h
   ·rename_i e;exact absurd (.inl e) h1
   split at h
   ·rename_i e;exact absurd (.inr e) h1
   split at h
   ·rename_i e;exact (by decide:∀ o∈zcr,o∈sgL) _ e
   split at h
   ·rename_i e;exact (by decide:∀ o∈zbZ,o∈sgL) _ e
   split at h
   ·rename_i e;exact (by decide:∀ o∈zbp,o∈sgL) _ e
   ·exact absurd rfl h
  exact RdT.tok (t:=⟨4,op,0,0⟩) (.inr (.inr (.inr ⟨rfl,rfl,hm⟩))) (Cl.fits (zcN (by decide) (by decide)) _) hb
theorem zmi:∀ (xs:List Ex),(∀ x∈xs,Wr x)→∀ {r:List UInt8} {ts:List Tk},RdT r ts→Cl r→RdT (joinS [44,32] (xs.map textE)++r) (joinK (xs.map tkE)++ts)
 | [],_,r,ts,hr,hc=>hr
 | [x],h,r,ts,hr,hc=>h x (by simp) r ts hr hc
 | x::y::l,h,r,ts,hr,hc=>by
  have ih:=zmi (y::l) (fun z hz=>h z (by simp[hz])) hr hc;show RdT ((textE x++([44,32]++joinS [44,32] ((y::l).map textE)))++r) ((tkE x++((4,[44],0)::joinK ((y::l).map tkE)))++ts)
  rw[yM,yM,yM,List.cons_append];refine h x (by simp) _ _ ?_ (zcN (by decide) (by decide));show RdT ([44]++(32::(joinS [44,32] ((y::l).map textE)++r))) _
  exact RdT.sign (x:=[44]) (by decide) (by decide) (by decide) (ih.ws (by decide))
theorem zqE:∀ x,OkE x→Wr x:=by
 intro x;refine Ex.ind (P:=fun x=>OkE x→Wr x) ?_ x;intro k nm v op xs ih ok;generalize hx:Ex.mk k nm v op xs=x at ok;intro r ts hr hc
 cases ok with
 | col n h=>rw[zij,zfW];exact RdT.word h.1 (fun c hh=>(hc c hh).1) hr
 | null=>rw[zcu,zcF,zgK];exact RdT.word (.inl ⟨rfl,rfl,⟨110,[117,108,108],rfl,by decide⟩,by decide,by decide⟩) (fun c hh=>(hc c hh).1) hr
 | num n h0 h1 =>
  rw[zcu,zcF,zio];unfold zje;rw[if_pos rfl];by_cases hn:n<0
  ·rw[if_pos hn,ziY hn];refine RdT.sign (x:=[45]) (by decide) (by decide) (by decide) ?_;exact RdT.num (by show 0≤-n;omega) (by show -n≤9223372036854775807;omega) (fun c hh=>zfN (hc c hh).1) hr
  ·rw[if_neg hn];exact RdT.num (by show 0≤n;omega) h1 (fun c hh=>zfN (hc c hh).1) hr
 | txt t h=>rw[zcu,zcF,zf1 h];exact RdT.quo h hr
 | not a h =>
  have ha:=ih a (by cases hx;simp) h;rw[zih,zhv,yM,List.cons_append,List.cons_append];exact RdT.word (.inl ⟨rfl,rfl,⟨110,[111,116],rfl,by decide⟩,by decide,by decide⟩) (zgq (by decide)) ((zfy ha 3 hr hc).ws (by decide))
 | neg a h =>
  have ha:=ih a (by cases hx;simp) h;rw[zii,zjq,yM,List.cons_append];exact RdT.sign (x:=[45]) (by decide) (by decide) (by decide) (zoZ ha hr hc)
 | bin op' a b ho h1 h2 =>
  have ha:=ih a (by cases hx;simp) h1;have hb:=ih b (by cases hx;simp) h2;rw[zik,zfX,yM,List.cons_append,yM,List.cons_append,yM,List.cons_append];refine zfy ha _ ?_ (zcN (by decide) (by decide));exact (zth ho (zfy hb _ hr hc)).ws (by decide)
 | call n xs' h h0 hxs =>
  rw[zgI,zhw];have e1:(n++40::(joinS [44,32] (xs'.map textE)++[41]))++r=n++([40]++(joinS [44,32] (xs'.map textE)++([41]++r))):=by simp
  have e2:((1,n,0)::(4,[40],0)::(joinK (xs'.map tkE)++[(4,[41],0)]))++ts=(1,n,0)::((4,[40],0)::(joinK (xs'.map tkE)++((4,[41],0)::ts))):=by simp
  rw[e1,e2];refine RdT.word h.1 (zgq (by decide)) ?_;refine RdT.sign (x:=[40]) (by decide) (by decide) (by decide) ?_;exact zmi xs' (fun z hz=>ih z (by cases hx;exact hz) (hxs z hz)) (RdT.sign (x:=[41]) (by decide) (by decide) (by decide) hr) (zcN (by decide) (by decide))
