/- Definitions: their text, their tokens, what is well formed; their own tokens are read back as them. No program in sight. Definitions: their text is cut into their tokens; what is read is well formed, and has a text that tells it again. No program in sight. Definitions: what is read is well formed, its text not much longer than what it was read from. No program in sight. The plain law of the reader: it looks at nothing but the tokens that it takes, and the one behind them; where they begin is all one. No program in sight. -/
import Derived.Test.YtonkjhmkppeagaaGreatDoorVQy
set_option linter.unusedVariables false
namespace Go.Proofs.YtonkjhmkppeagaaGreatDoor.Pz
open Go.Proofs.Tryz
open Go Go.RowKit Lx
def wAt (ws:List Str) (k:Int):Str:=ws.getD (k.toNat-1) []
def colT (c:Str×Int):Str:=c.1++(32::(if 2≤c.2 then sText else sInt))
def scT (s:Sc):Str:=if 1≤s.k∧s.k≤5 then wAt zaw s.k++(32::(Lib.itoa s.f++([46,46]++Lib.itoa s.l))) else []
def inN (x:Inp):Str:=if x.k=2∨x.k=3 then Lib.itoa x.n else []
def inT (x:Inp):Str:=if 1≤x.k∧x.k≤5 then zaC [x.a,wAt zaf x.k,inN x,sAs,x.s] else []
def dfT0 (d:Df):Str :=
 if d.k=1 then zaC [zba,d.nm,40::(joinS [44,32] (d.sch.map colT)++[41]),scT d.sc]
 else if d.k=2 then zaC [zbl,d.nm,scT d.sc,sFrom,joinS [44,32] (d.ins.map inT),sDo,textQ d.plan]
 else zaC [zaG,d.nm,Va.quotedL d.cron,za1,joinS [44,32] d.mks]
def dfT (d:Df):Str:=dfT0 d++[59,10]
def defsT (l:List Df):Str:=(l.map dfT).flatten
def colK2 (c:Str×Int):List Tk:=[(1,c.1,0),(1,if 2≤c.2 then sText else sInt,0)]
def scK (s:Sc):List Tk:=[(1,wAt zaw s.k,0),(2,[],s.f),(4,[46,46],0),(2,[],s.l)]
def inNK (x:Inp):List Tk:=if x.k=2 then [(2,[],x.n)] else if x.k=3 then (if x.n<0 then [(4,[45],0),(2,[],-x.n)] else [(2,[],x.n)]) else []
def inK (x:Inp):List Tk:=(1,x.a,0)::(1,wAt zaf x.k,0)::(inNK x++[(1,sAs,0),(1,x.s,0)])
def nameK (n:Str):List Tk:=[(1,n,0)]
def dfK0 (d:Df):List Tk :=
 if d.k=1 then (1,zba,0)::(1,d.nm,0)::(4,[40],0)::(joinK (d.sch.map colK2)++(4,[41],0)::scK d.sc)
 else if d.k=2 then (1,zbl,0)::(1,d.nm,0)::(scK d.sc++(1,sFrom,0)::(joinK (d.ins.map inK)++(1,sDo,0)::tkQ d.plan))
 else (1,zaG,0)::(1,d.nm,0)::(3,d.cron,0)::(1,za1,0)::joinK (d.mks.map nameK)
def dfK (d:Df):List Tk:=dfK0 d++[(4,[59],0)]
def defsK (l:List Df):List Tk:=(l.map dfK).flatten
def OkSc (s:Sc):Prop:=(1≤s.k∧s.k≤5)∧(0≤s.f∧s.f≤9223372036854775807)∧(0≤s.l∧s.l≤9223372036854775807)
def OkIn (x:Inp):Prop:=zao x.a∧zao x.s∧(1≤x.k∧x.k≤5)∧(x.k=2→0≤x.n∧x.n≤9223372036854775807)∧(x.k=3→-9223372036854775807≤x.n∧x.n≤9223372036854775807)∧(x.k≠2→x.k≠3→x.n=0)
inductive OkD:Df→Prop
 | source (n:Str) (cs:List (Str×Int)) (s:Sc) (hn:zao n) (h0:cs≠[]) (hc:∀ c∈cs,zao c.1∧(c.2=1∨c.2=2)) (hs:OkSc s):OkD ⟨1,n,cs,s,[],zPl,[],[]⟩
 | asset (n:Str) (s:Sc) (ins:List Inp) (p:Pl) (hn:zao n) (hs:OkSc s) (h0:ins≠[]) (hi:∀ x∈ins,OkIn x) (hp:OkQ p) (hd:deepQ p≤31):OkD ⟨2,n,[],s,ins,p,[],[]⟩
 | schedule (n c:Str) (ms:List Str) (hn:zao n) (hc:TokOk ⟨3,c,0,0⟩) (h0:ms≠[]) (hm:∀ m∈ms,zao m):OkD ⟨3,n,[],zSc,[],zPl,c,ms⟩
theorem zlb {k:Int} (h:1≤k∧k≤5):∃ j,zeA (wAt zaw k) zaw=some j∧((1+j:Nat):Int)=k:=by
 obtain ⟨h1,h2⟩:=h;have:k=1∨k=2∨k=3∨k=4∨k=5:=by omega
 rcases this with rfl|rfl|rfl|rfl|rfl
 ·exact ⟨0,by decide,rfl⟩
 ·exact ⟨1,by decide,rfl⟩
 ·exact ⟨2,by decide,rfl⟩
 ·exact ⟨3,by decide,rfl⟩
 ·exact ⟨4,by decide,rfl⟩
theorem zq9 {k:Int} (h:1≤k∧k≤5):∃ j,zeA (wAt zaf k) zaf=some j∧((1+j:Nat):Int)=k:=by
 obtain ⟨h1,h2⟩:=h;have:k=1∨k=2∨k=3∨k=4∨k=5:=by omega
 rcases this with rfl|rfl|rfl|rfl|rfl
 ·exact ⟨0,by decide,rfl⟩
 ·exact ⟨1,by decide,rfl⟩
 ·exact ⟨2,by decide,rfl⟩
 ·exact ⟨3,by decide,rfl⟩
 ·exact ⟨4,by decide,rfl⟩
theorem zf3 {s:Ps} {x:Sc} {rest:List Tk} (hx:OkSc x) (a:At s (scK x++rest)):zaS s=(x,advN s (scK x).length):=by
 obtain ⟨j,j1,j2⟩:=zlb hx.1;obtain ⟨e1,h1⟩:=zdM (ws:=zaw) (.inl rfl) (rest:=(2,[],x.f)::(4,[46,46],0)::(2,[],x.l)::rest) a j1;obtain ⟨e2,e3,h2⟩:=zgT h1;obtain ⟨e4,h3⟩:=zbx (.inr rfl) h2;obtain ⟨e5,e6,h4⟩:=zgT h3;unfold zaS;rw[e1];simp only;rw[e2,e3,e4,e5,e6,j2];rfl
theorem zqu {c:Str×Int} {a:List (Str×Int)} {s:Ps} {r:List Tk} (hc:c.2=1∨c.2=2) (h:At s (colK2 c++r)):zbe a s=(a++[c],advN s (colK2 c).length):=by
 obtain ⟨e1,h1⟩:=zb8 (rest:=(1,if 2≤c.2 then sText else sInt,0)::r) h;obtain ⟨n,t⟩:=c;unfold zbe;rw[e1];simp only at hc h1 ⊢;rcases hc with rfl|rfl
 ·obtain ⟨e2,h2⟩:=zdM (ws:=[sInt,sText]) (j:=0) (.inl rfl) h1 (by rw[if_neg (by decide)];decide);rw[e2];rfl
 ·obtain ⟨e2,h2⟩:=zdM (ws:=[sInt,sText]) (j:=1) (.inl rfl) h1 (by rw[if_pos (by decide)];decide);rw[e2];rfl
theorem zoA {s:Ps} {cs:List (Str×Int)} {rest:List Tk} (h0:cs≠[]) (hc:∀ c∈cs,c.2=1∨c.2=2) (a:At s (joinK (cs.map colK2)++rest)) (hn:isK rest [44]=false):listP zbe [] s=(cs,advN s (joinK (cs.map colK2)).length):=by
 rw[zc3 (f:=zbe) (tk:=colK2) (put:=fun a n=>a++[n]) (stop:=ze7) (item:=fun c=>c.2=1∨c.2=2) (fun x a s r hx h _=>zqu hx h) (fun _=>trivial) trivial hn h0 [] hc a,zbJ]
theorem znt {x:Inp} {s:Ps} {j:Nat} (hj:((1+j:Nat):Int)=x.k) (hx:OkIn x) {r:List Tk} (h:At s (inNK x++(1,sAs,0)::r)):mapK (1+j) s=(x.n,advN s (inNK x).length):=by
 obtain ⟨_,_,hk,h2,h3,hz⟩:=hx;unfold mapK;unfold inNK at h ⊢;by_cases k2:x.k=2
 ·rw[if_pos k2]at h ⊢;rw[if_pos (by omega)];obtain ⟨e1,e2,_⟩:=zgT (rest:=(1,sAs,0)::r) h;rw[e1,e2];rfl
 ·rw[if_neg k2]at h ⊢;rw[if_neg (by omega)];by_cases k3:x.k=3
  ·rw[if_pos k3]at h ⊢;rw[if_pos (by omega)];by_cases hn:x.n<0
   ·rw[if_pos hn]at h ⊢;have h':At s ((4,[45],0)::(2,[],-x.n)::(1,sAs,0)::r):=h;rw[if_pos (by rw[is_at (.inr rfl) h'];decide)];obtain ⟨e1,e2,_⟩:=zgT h'.peek.2.1;rw[e1,e2];refine Prod.ext ?_ rfl;show -(-x.n)=x.n
    omega
   ·rw[if_neg hn]at h ⊢;have h':At s ((2,[],x.n)::(1,sAs,0)::r):=h;have hk2:(peekP s).k=2:=congrArg (·.1) h'.peek.1;rw[if_neg (by
     unfold isP;rw[hk2,yN (fun h=>by rcases h.1 with h|h<;>exact absurd h (by decide))];decide)]
    obtain ⟨e1,e2,_⟩:=zgT h';rw[e1,e2];rfl
  ·rw[if_neg k3]at h ⊢;rw[if_neg (by omega),hz k2 k3];rfl
theorem zsc {x:Inp} {a:List Inp} {s:Ps} {r:List Tk} (hx:OkIn x) (h:At s (inK x++r)):zbQ a s=(a++[x],advN s (inK x).length):=by
 obtain ⟨j,j1,j2⟩:=zq9 hx.2.2.1;have h0:At s ((1,x.a,0)::(1,wAt zaf x.k,0)::(inNK x++(1,sAs,0)::(1,x.s,0)::r)):=by
  have:inK x++r=(1,x.a,0)::(1,wAt zaf x.k,0)::(inNK x++(1,sAs,0)::(1,x.s,0)::r):=by
   unfold inK;rw[List.cons_append,List.cons_append,yM];rfl
  rw[this]at h;exact h
 obtain ⟨e1,h1⟩:=zb8 h0;obtain ⟨e2,h2⟩:=zdM (ws:=zaf) (.inl rfl) h1 j1;have e3:=znt j2 hx h2;obtain ⟨e4,h4⟩:=zbx (.inl rfl) h2.app;obtain ⟨e5,h5⟩:=zb8 h4;have em:zab (advP s)=((x.k,x.n),advN (advP (advP s)) (inNK x).length):=by
  unfold zab;rw[e2];simp only;rw[e3,j2]
 unfold zbQ;rw[e1];simp only;rw[em];simp only;rw[e4,e5];refine Prod.ext rfl ?_;show advP (advP (advN (advP (advP s)) (inNK x).length))=advN s (inK x).length
 rw[zaB,zaB,zaB,zaB,zap,zap,zap,zap];congr 1
 unfold inK;simp only[yB,yA,yD];omega
theorem zp0 {s:Ps} {ins:List Inp} {rest:List Tk} (h0:ins≠[]) (hi:∀ x∈ins,OkIn x) (a:At s (joinK (ins.map inK)++rest)) (hn:isK rest [44]=false):listP zbQ [] s=(ins,advN s (joinK (ins.map inK)).length):=by
 rw[zc3 (f:=zbQ) (tk:=inK) (put:=fun a n=>a++[n]) (stop:=ze7) (item:=OkIn) (fun x a s r hx h _=>zsc hx h) (fun _=>trivial) trivial hn h0 [] hi a,zbJ]
theorem zf0 {n:Str} {cs:List (Str×Int)} {x:Sc} (h0:cs≠[]) (hc:∀ c∈cs,c.2=1∨c.2=2) (hs:OkSc x) {s:Ps} {rest:List Tk} (a:At s ((1,n,0)::(4,[40],0)::(joinK (cs.map colK2)++(4,[41],0)::(scK x++rest)))) :
 zbz s=(⟨1,n,cs,x,[],zPl,[],[]⟩,advN s (1+(1+((joinK (cs.map colK2)).length+(1+(scK x).length))))):=by
 obtain ⟨e1,h1⟩:=zb8 a;obtain ⟨e2,h2⟩:=zbx (.inr rfl) h1;have e3:=zoA h0 hc h2 (by rw[zc6];decide);obtain ⟨e4,h4⟩:=zbx (.inr rfl) h2.app;have e5:=zf3 hs h4;unfold zbz;rw[e1];simp only;rw[e2,e3];simp only;rw[e4,e5];simp only[zaB,zap,Nat.add_assoc]
theorem zhr {n:Str} {x:Sc} {ins:List Inp} {p:Pl} (hs:OkSc x) (h0:ins≠[]) (hi:∀ x∈ins,OkIn x) (hp:OkQ p) (hd:deepQ p≤31) {s:Ps} {rest:List Tk} (st:Sg qE rest) (a:At s ((1,n,0)::(scK x++(1,sFrom,0)::(joinK (ins.map inK)++(1,sDo,0)::(tkQ p++rest))))) :
 zcl s=(⟨2,n,[],x,ins,p,[],[]⟩,advN s (1+((scK x).length+(1+((joinK (ins.map inK)).length+(1+(tkQ p).length)))))):=by
 obtain ⟨e1,h1⟩:=zb8 a;have e2:=zf3 hs h1;obtain ⟨e3,h3⟩:=zbx (.inl rfl) h1.app;have e4:=zp0 h0 hi h3 (by rw[zc6];decide);obtain ⟨e5,h5⟩:=zbx (.inl rfl) h3.app;have e6:=(zkk hp h5 st).1 hd;unfold zcl;rw[e1];simp only;rw[e2];simp only;rw[e3,e4];simp only;rw[e5,e6];simp only[zaB,zap,Nat.add_assoc]
theorem zeF {n c:Str} {ms:List Str} (h0:ms≠[]) {s:Ps} {rest:List Tk} (hr:isK rest [44]=false) (a:At s ((1,n,0)::(3,c,0)::(1,za1,0)::(joinK (ms.map nameK)++rest))) :
 za3 s=(⟨3,n,[],zSc,[],zPl,c,ms⟩,advN s (1+(1+(1+(joinK (ms.map nameK)).length)))):=by
 obtain ⟨e1,h1⟩:=zb8 a;obtain ⟨e2,e3,h2⟩:=zre h1;obtain ⟨e4,h4⟩:=zbx (.inl rfl) h2;have e5:=zgV h0 h4 hr;unfold za3;rw[e1];simp only;rw[e2,e3,e4,e5];simp only[zaB,zap,Nat.add_assoc];rfl
theorem znG:zao zba:=.inl ⟨rfl,rfl,⟨115,[111,117,114,99,101],rfl,by decide⟩,by decide,by decide⟩
theorem zkR:zao zbl:=.inl ⟨rfl,rfl,⟨97,[115,115,101,116],rfl,by decide⟩,by decide,by decide⟩
theorem zjT:zao zaG:=.inl ⟨rfl,rfl,⟨115,[99,104,101,100,117,108,101],rfl,by decide⟩,by decide,by decide⟩
theorem ztl:zao sInt:=.inl ⟨rfl,rfl,⟨105,[110,116],rfl,by decide⟩,by decide,by decide⟩
theorem zr4:zao sText:=.inl ⟨rfl,rfl,⟨116,[101,120,116],rfl,by decide⟩,by decide,by decide⟩
theorem znL:zao sFrom:=.inl ⟨rfl,rfl,⟨102,[114,111,109],rfl,by decide⟩,by decide,by decide⟩
theorem kw_do:zao sDo:=.inl ⟨rfl,rfl,⟨100,[111],rfl,by decide⟩,by decide,by decide⟩
theorem zpX:zao za1:=.inl ⟨rfl,rfl,⟨109,[97,107,101,115],rfl,by decide⟩,by decide,by decide⟩
theorem znK:zao zmJ:=.inl ⟨rfl,rfl,⟨104,[111,117,114,108,121],rfl,by decide⟩,by decide,by decide⟩
theorem zpY:zao zqK:=.inl ⟨rfl,rfl,⟨100,[97,105,108,121],rfl,by decide⟩,by decide,by decide⟩
theorem znE:zao zmH:=.inl ⟨rfl,rfl,⟨119,[101,101,107,108,121],rfl,by decide⟩,by decide,by decide⟩
theorem zlP:zao zkr:=.inl ⟨rfl,rfl,⟨109,[111,110,116,104,108,121],rfl,by decide⟩,by decide,by decide⟩
theorem znF:zao zmI:=.inl ⟨rfl,rfl,⟨115,[116,97,116,105,99],rfl,by decide⟩,by decide,by decide⟩
theorem zr5:zao sSame:=.inl ⟨rfl,rfl,⟨115,[97,109,101],rfl,by decide⟩,by decide,by decide⟩
theorem zr6:zao sLast:=.inl ⟨rfl,rfl,⟨108,[97,115,116],rfl,by decide⟩,by decide,by decide⟩
theorem zpW:zao zqJ:=.inl ⟨rfl,rfl,⟨115,[104,105,102,116],rfl,by decide⟩,by decide,by decide⟩
theorem znD:zao zmG:=.inl ⟨rfl,rfl,⟨119,[105,116,104,105,110],rfl,by decide⟩,by decide,by decide⟩
theorem ztm:zao sAll:=.inl ⟨rfl,rfl,⟨97,[108,108],rfl,by decide⟩,by decide,by decide⟩
theorem ziU {k:Int} (h:1≤k∧k≤5):zao (wAt zaw k):=by
 obtain ⟨h1,h2⟩:=h;have:k=1∨k=2∨k=3∨k=4∨k=5:=by omega
 rcases this with rfl|rfl|rfl|rfl|rfl
 ·exact znK
 ·exact zpY
 ·exact znE
 ·exact zlP
 ·exact znF
theorem zqP {k:Int} (h:1≤k∧k≤5):zao (wAt zaf k):=by
 obtain ⟨h1,h2⟩:=h;have:k=1∨k=2∨k=3∨k=4∨k=5:=by omega
 rcases this with rfl|rfl|rfl|rfl|rfl
 ·exact zr5
 ·exact zr6
 ·exact zpW
 ·exact znD
 ·exact ztm
theorem zsB {c:Str} (h:TokOk ⟨3,c,0,0⟩):WrA (Va.quotedL c) [(3,c,0)]:=fun r ts hr=>RdT.quo h hr
theorem wr_sc {s:Sc} (h:OkSc s):WrT (scT s) (scK s):=by
 unfold scT scK;rw[if_pos h.1];refine wr_sp (k:=[(1,wAt zaw s.k,0)]) (zas (ziU h.1)) ?_;refine (zdP h.2.1.1 h.2.1.2).app (k:=[(2,[],s.f)]) (j:=[(4,[46,46],0),(2,[],s.l)]) ?_ (fun r=>zcN (by decide) (by decide));exact (zbs (x:=[46,46]) (by decide) (by decide) (by decide)).app (zdP h.2.2.1 h.2.2.2)
theorem zsF {c:Str×Int} (h:zao c.1∧(c.2=1∨c.2=2)):WrT (colT c) (colK2 c):=by
 unfold colT colK2;refine wr_sp (k:=[(1,c.1,0)]) (zas h.1) ?_;split
 ·exact zas zr4
 ·exact zas ztl
theorem znR {n:Int} (h:n<0):Lib.itoa n=45::Lib.itoa (-n):=by
 obtain ⟨u,rfl⟩:∃ u:Nat,n=-(u:Int):=⟨(-n).toNat,by omega⟩;have h0:0<u:=by omega
 rw[Int.neg_neg,Lib.itoa_nonneg];unfold Lib.itoa;rw[if_pos h];simp
theorem zqD {x:Inp} (h:OkIn x):WrT (inN x) (inNK x)∧(inNK x=[]→inN x=[]):=by
 obtain ⟨_,_,hk,h2,h3,hz⟩:=h;unfold inN inNK;by_cases k2:x.k=2
 ·rw[if_pos (.inl k2),if_pos k2];exact ⟨zdP (h2 k2).1 (h2 k2).2,fun e=>by cases e⟩
 ·rw[if_neg k2];by_cases k3:x.k=3
  ·rw[if_pos (.inr k3),if_pos k3];by_cases hn:x.n<0
   ·rw[if_pos hn,znR hn];refine ⟨?_,fun e=>by cases e⟩;exact (zbs (x:=[45]) (by decide) (by decide) (by decide)).app (zdP (by omega) (by have:=(h3 k3).1;omega))
   ·rw[if_neg hn];exact ⟨zdP (by omega) (h3 k3).2,fun e=>by cases e⟩
  ·rw[if_neg k3,if_neg (fun h=>by rcases h with h|h;exact k2 h;exact k3 h)];exact ⟨WrT.empty,fun _=>rfl⟩
theorem zde {a:Str} {t:Tk}:([t]:List Tk)=[]→a=[]:=fun e=>by cases e
theorem wr_in {x:Inp} (h:OkIn x):WrT (inT x) (inK x):=by
 unfold inT;rw[if_pos h.2.2.1];have h1:=zd2 [(x.a,[((1:Int),x.a,(0:Int))]),(wAt zaf x.k,[(1,wAt zaf x.k,0)]),(inN x,inNK x),(sAs,[(1,sAs,0)]),(x.s,[(1,x.s,0)])] (fun p hp=>by
  simp only[List.mem_cons,List.not_mem_nil,or_false]at hp;rcases hp with rfl|rfl|rfl|rfl|rfl
  ·exact ⟨zas h.1,zde⟩
  ·exact ⟨zas (zqP h.2.2.1),zde⟩
  ·exact zqD h
  ·exact ⟨zas kw_as,zde⟩
  ·exact ⟨zas h.2.1,zde⟩)
 have e:inK x=([(x.a,[((1:Int),x.a,(0:Int))]),(wAt zaf x.k,[(1,wAt zaf x.k,0)]),(inN x,inNK x),(sAs,[(1,sAs,0)]),(x.s,[(1,x.s,0)])].map (·.2)).flatten:=by
  unfold inK;simp
 rw[e];exact h1
theorem zoY {ms:List Str} (h:∀ m∈ms,zao m):WrT (joinS [44,32] ms) (joinK (ms.map nameK)):=by
 have:=zdB (tx:=fun m:Str=>m) (tk:=nameK) ms (fun m hm=>zas (h m hm));simpa using this
theorem ziX {α:Type} {tk:α→List Tk} (h:∀ x,tk x≠[]) {l:List α} (h0:l≠[]):joinK (l.map tk)≠[]:=by
 cases l with
 | nil=>exact absurd rfl h0
 | cons x l =>
  cases hx:tk x with
  | nil=>exact absurd hx (h x)
  | cons a r =>
   obtain ⟨r',e⟩:=zd8 (l:=tk x) (l.map tk) hx;rw[List.map_cons,hx,← hx,e];exact List.cons_ne_nil _ _
theorem zsE {d:Df} (ok:OkD d):WrT (dfT0 d) (dfK0 d):=by
 cases ok with
 | source n cs x hn h0 hc hs =>
  have hcols:WrT (40::(joinS [44,32] (cs.map colT)++[41])) ((4,[40],0)::(joinK (cs.map colK2)++[(4,[41],0)])):=by
   refine (zbs (x:=[40]) (by decide) (by decide) (by decide)).app (u:=joinS [44,32] (cs.map colT)++[41]) (j:=joinK (cs.map colK2)++[(4,[41],0)]) ?_;exact (zdB cs (fun c hc'=>zsF (hc c hc'))).app (zbs (x:=[41]) (by decide) (by decide) (by decide)).wt (fun r=>zcN (by decide) (by decide))
  have h1:=zd2 [(zba,[((1:Int),zba,(0:Int))]),(n,[(1,n,0)]),(40::(joinS [44,32] (cs.map colT)++[41]),(4,[40],0)::(joinK (cs.map colK2)++[(4,[41],0)])),(scT x,scK x)] (fun p hp=>by
   simp only[List.mem_cons,List.not_mem_nil,or_false]at hp;rcases hp with rfl|rfl|rfl|rfl
   ·exact ⟨zas znG,zde⟩
   ·exact ⟨zas hn,zde⟩
   ·exact ⟨hcols,fun e=>by cases e⟩
   ·exact ⟨wr_sc hs,fun e=>by cases e⟩)
  have e:dfK0 ⟨1,n,cs,x,[],zPl,[],[]⟩=([(zba,[((1:Int),zba,(0:Int))]),(n,[(1,n,0)]),(40::(joinS [44,32] (cs.map colT)++[41]),(4,[40],0)::(joinK (cs.map colK2)++[(4,[41],0)])),(scT x,scK x)].map (·.2)).flatten:=by
   show (1,zba,0)::(1,n,0)::(4,[40],0)::(joinK (cs.map colK2)++(4,[41],0)::scK x)=_
   simp
  rw[e];exact h1
 | asset n x ins p hn hs h0 hi hp hd =>
  have h1:=zd2 [(zbl,[((1:Int),zbl,(0:Int))]),(n,[(1,n,0)]),(scT x,scK x),(sFrom,[(1,sFrom,0)]),(joinS [44,32] (ins.map inT),joinK (ins.map inK)),(sDo,[(1,sDo,0)]),(textQ p,tkQ p)] (fun q hq=>by
   simp only[List.mem_cons,List.not_mem_nil,or_false]at hq;rcases hq with rfl|rfl|rfl|rfl|rfl|rfl|rfl
   ·exact ⟨zas zkR,zde⟩
   ·exact ⟨zas hn,zde⟩
   ·exact ⟨wr_sc hs,fun e=>by cases e⟩
   ·exact ⟨zas znL,zde⟩
   ·exact ⟨zdB ins (fun y hy=>wr_in (hi y hy)),fun e=>absurd e (ziX (fun y=>by unfold inK;exact List.cons_ne_nil _ _) h0)⟩
   ·exact ⟨zas kw_do,zde⟩
   ·exact ⟨zmk p hp,fun e=>absurd e (zsL p)⟩)
  have e:dfK0 ⟨2,n,[],x,ins,p,[],[]⟩=([(zbl,[((1:Int),zbl,(0:Int))]),(n,[(1,n,0)]),(scT x,scK x),(sFrom,[(1,sFrom,0)]),(joinS [44,32] (ins.map inT),joinK (ins.map inK)),(sDo,[(1,sDo,0)]),(textQ p,tkQ p)].map (·.2)).flatten:=by
   show (1,zbl,0)::(1,n,0)::(scK x++(1,sFrom,0)::(joinK (ins.map inK)++(1,sDo,0)::tkQ p))=_
   simp
  rw[e];exact h1
 | schedule n c ms hn hc h0 hm =>
  have h1:=zd2 [(zaG,[((1:Int),zaG,(0:Int))]),(n,[(1,n,0)]),(Va.quotedL c,[(3,c,0)]),(za1,[(1,za1,0)]),(joinS [44,32] ms,joinK (ms.map nameK))] (fun q hq=>by
   simp only[List.mem_cons,List.not_mem_nil,or_false]at hq;rcases hq with rfl|rfl|rfl|rfl|rfl
   ·exact ⟨zas zjT,zde⟩
   ·exact ⟨zas hn,zde⟩
   ·exact ⟨(zsB hc).wt,zde⟩
   ·exact ⟨zas zpX,zde⟩
   ·exact ⟨zoY hm,fun e=>absurd e (ziX (fun y=>List.cons_ne_nil _ _) h0)⟩)
  have e:dfK0 ⟨3,n,[],zSc,[],zPl,c,ms⟩=([(zaG,[((1:Int),zaG,(0:Int))]),(n,[(1,n,0)]),(Va.quotedL c,[(3,c,0)]),(za1,[(1,za1,0)]),(joinS [44,32] ms,joinK (ms.map nameK))].map (·.2)).flatten:=by
   show (1,zaG,0)::(1,n,0)::(3,c,0)::(1,za1,0)::joinK (ms.map nameK)=_
   simp
  rw[e];exact h1
theorem zga (l:List UInt8):zaJ l=allR [] (defsP (openP l)).2 (defsP (openP l)).1:=by
 unfold zaJ allR;rw[show (defsP (openP l)).2.E=l.length from (zb5 _ _ _).E]
theorem zmn {ws:List Str} {k:Nat}:wAt ws ((1+k:Nat):Int)=ws.getD k []:=by
 unfold wAt;congr 1
 omega
theorem zf2 {s:Ps} (a:AllOk s) (h:(zaS s).2.e=0):OkSc (zaS s).1∧(scT (zaS s).1).length+2*Wt (zaS s).2≤2*Wt s:=by
 have g1:=zbW zaw s;have g2:=g1.trans (zbh 2 (by decide) _);have g3:=g2.trans (zan [46,46] _);change (zae 2 (wantP [46,46] (zae 2 (oneP zaw s).2).2)).2.e=0 at h
 have h3:=(zbh 2 (by decide) _).back h;have h2:=(zan [46,46] _).back h3;have h1:=(zbh 2 (by decide) _).back h2;obtain ⟨k,k1,k2,w1⟩:=zd6 h1;obtain ⟨n1,n2,w2⟩:=zgE (g1.all a) h2;have w3:=zbX h3;obtain ⟨m1,m2,w4⟩:=zgE (g3.all a) h;change _∧(scT (zaS s).1).length+2*Wt (zae 2 (wantP [46,46] (zae 2 (oneP zaw s).2).2)).2≤_
 have e:(zaS s).1=⟨((1+k:Nat):Int),(zae 2 (oneP zaw s).2).1.n,(zae 2 (wantP [46,46] (zae 2 (oneP zaw s).2).2)).1.n⟩:=by
  unfold zaS;rw[k2]
 rw[e];have k5:k<5:=k1;have ok:OkSc ⟨((1+k:Nat):Int),(zae 2 (oneP zaw s).2).1.n,(zae 2 (wantP [46,46] (zae 2 (oneP zaw s).2).2)).1.n⟩:=⟨⟨by show (1:Int)≤((1+k:Nat):Int);omega,by show ((1+k:Nat):Int)≤5;omega⟩,⟨n1,n2⟩,⟨m1,m2⟩⟩;refine ⟨ok,?_⟩;unfold scT;rw[if_pos ok.1];simp only[zmn,yA,yB,yD]at w3 ⊢;omega
theorem zoz {s:Ps} (a:AllOk s) (h:(listP zbe [] s).2.e=0):(listP zbe [] s).1≠[]∧(∀ c∈(listP zbe [] s).1,zao c.1∧(c.2=1∨c.2=2))∧(joinS [44,32] ((listP zbe [] s).1.map colT)).length+2+2*Wt (listP zbe [] s).2≤2*Wt s:=by
 obtain ⟨l,l0,l1,l2,l3⟩:=zc2 zcj (fun a x=>a++[x]) colT (fun c=>zao c.1∧(c.2=1∨c.2=2)) (fun acc s a h=>by
  have h1:(nameP s).2.e=0:=(zbW [sInt,sText] _).back h;obtain ⟨n1,w1⟩:=zcm a h1;obtain ⟨k,k1,k2,w2⟩:=zd6 (ws:=[sInt,sText]) (s:=(nameP s).2) h;refine ⟨((nameP s).1,((1+k:Nat):Int)),by unfold zbe;rw[k2],⟨n1,?_⟩,?_⟩
  ·have:k<2:=k1;show ((1+k:Nat):Int)=1∨((1+k:Nat):Int)=2
   omega
  ·show (colT ((nameP s).1,((1+k:Nat):Int))).length+2+2*Wt (oneP [sInt,sText] (nameP s).2).2≤2*Wt s
   have hk:(if (2:Int)≤((1+k:Nat):Int) then sText else sInt).length=([sInt,sText].getD k []).length:=by
    match k,k1 with
    | 0,_=>rfl
    | 1,_=>rfl
    | k+2,h=>exact absurd h (by show ¬ k+2<2;omega)
   unfold colT;simp only[yA,yB,hk];omega) [] s a h
 rw[l1,zbJ];exact ⟨l0,l2,l3⟩
theorem zr2 {n:Int} (h:0≤n):(Lib.itoa (-n)).length≤(Lib.itoa n).length+1:=by
 by_cases h0:n=0
 ·subst h0;exact Nat.le_succ _
 ·rw[znR (show -n<0 by omega),Int.neg_neg];exact yG _
theorem zpP {s:Ps} (a:AllOk s) (h:(zab s).2.e=0):(1≤(zab s).1.1∧(zab s).1.1≤5)∧((zab s).1.1=2→0≤(zab s).1.2∧(zab s).1.2≤9223372036854775807)∧((zab s).1.1=3→-9223372036854775807≤(zab s).1.2∧(zab s).1.2≤9223372036854775807)∧((zab s).1.1≠2→(zab s).1.1≠3→(zab s).1.2=0)∧
 (wAt zaf (zab s).1.1).length+1+(if (zab s).1.1=2∨(zab s).1.1=3 then (Lib.itoa (zab s).1.2).length+1 else 0)+Wt (zab s).2≤Wt s:=by
 change (mapK (oneP zaf s).1 (oneP zaf s).2).2.e=0 at h
 have g1:=zbW zaf s;have h1:=(zi2 _ _).back h;obtain ⟨k,k1,k2,w1⟩:=zd6 h1;have k5:k<5:=k1;have e:zab s=((((1+k:Nat):Int),(mapK (1+k) (oneP zaf s).2).1),(mapK (1+k) (oneP zaf s).2).2):=by
  unfold zab;rw[k2]
 rw[k2]at h;rw[e];simp only[zmn];have a1:=g1.all a;generalize (oneP zaf s).2=z at h w1 a1 ⊢;refine ⟨⟨by omega,by omega⟩,?_⟩;unfold mapK at h ⊢;by_cases q2:k=1
 ·rw[if_pos (by omega)]at h ⊢;obtain ⟨n1,n2,w2⟩:=zgE a1 h;rw[if_pos (show (((1+k:Nat):Int)=2∨((1+k:Nat):Int)=3) from .inl (by omega))];exact ⟨fun _=>⟨n1,n2⟩,fun e=>absurd e (by omega),fun e=>absurd (by omega) e,by simp only;omega⟩
 ·rw[if_neg (by omega)]at h ⊢;by_cases q3:k=2
  ·rw[if_pos (by omega)]at h ⊢;rw[if_pos (show (((1+k:Nat):Int)=2∨((1+k:Nat):Int)=3) from .inr (by omega))];by_cases hx:isP z [45]=true
   ·rw[if_pos hx]at h ⊢;obtain ⟨n1,n2,w2⟩:=zgE ((zaz hx).all a1) h;have w3:=wt_is hx;have l:=zr2 n1;simp only[yB,yD]at w3;exact ⟨fun e=>absurd e (by omega),fun _=>⟨by simp only;omega,by simp only;omega⟩,fun _ e=>absurd (by omega) e,by simp only;omega⟩
   ·rw[if_neg hx]at h ⊢;obtain ⟨n1,n2,w2⟩:=zgE a1 h;exact ⟨fun e=>absurd e (by omega),fun _=>⟨by simp only;omega,by simp only;omega⟩,fun _ e=>absurd (by omega) e,by simp only;omega⟩
  ·rw[if_neg (by omega)]at h ⊢;rw[if_neg (show ¬ (((1+k:Nat):Int)=2∨((1+k:Nat):Int)=3) by omega)];exact ⟨fun e=>absurd e (by omega),fun e=>absurd e (by omega),fun _ _=>rfl,by simp only;omega⟩
theorem zpZ {s:Ps} (a:AllOk s) (h:(listP zbQ [] s).2.e=0):(listP zbQ [] s).1≠[]∧(∀ x∈(listP zbQ [] s).1,OkIn x)∧(joinS [44,32] ((listP zbQ [] s).1.map inT)).length+2+2*Wt (listP zbQ [] s).2≤2*Wt s:=by
 obtain ⟨l,l0,l1,l2,l3⟩:=zc2 zcy (fun a x=>a++[x]) inT OkIn (fun acc s a h=>by
  change (nameP (wantP sAs (zab (nameP s).2).2)).2.e=0 at h
  have g1:=zaP s;have g2:=g1.trans (zdV _);have g3:=g2.trans (zan sAs _);have h3:=(zaP _).back h;have h2:=(zan sAs _).back h3;have h1:=(zdV _).back h2;obtain ⟨n1,w1⟩:=zcm a h1;obtain ⟨m1,m2,m3,m4,w2⟩:=zpP (g1.all a) h2;have w3:=zbX h3;obtain ⟨n4,w4⟩:=zcm (g3.all a) h;refine ⟨⟨(nameP s).1,(zab (nameP s).2).1.1,(zab (nameP s).2).1.2,(nameP (wantP sAs (zab (nameP s).2).2)).1⟩,rfl,⟨n1,n4,m1,m2,m3,m4⟩,?_⟩;change (inT ⟨(nameP s).1,(zab (nameP s).2).1.1,(zab (nameP s).2).1.2,(nameP (wantP sAs (zab (nameP s).2).2)).1⟩).length+2+2*Wt (nameP (wantP sAs (zab (nameP s).2).2)).2≤2*Wt s
  generalize (zab (nameP s).2).1.1=K at *
  generalize (zab (nameP s).2).1.2=N at *
  generalize (nameP (wantP sAs (zab (nameP s).2).2)).1=S at *
  generalize (nameP s).1=A at *
  have hw:=zbI [A,wAt zaf K,inN ⟨A,K,N,S⟩,sAs,S];have hn:(inN ⟨A,K,N,S⟩).length≤(if K=2∨K=3 then (Lib.itoa N).length+1 else 0):=by
   unfold inN;by_cases hk:K=2∨K=3
   ·rw[if_pos hk,if_pos hk];exact Nat.le_succ _
   ·rw[if_neg hk,if_neg hk];exact yG _
  simp only[List.map_cons,List.map_nil,List.sum_cons,List.sum_nil,show sAs.length=2 from rfl]at hw w3;unfold inT;rw[if_pos m1];simp only;omega) [] s a h
 rw[l1,zbJ];exact ⟨l0,l2,l3⟩
theorem zju {s:Ps} (a:AllOk s) (h:(zbz s).2.e=0):OkD (zbz s).1∧(dfT0 (zbz s).1).length+2*Wt (zbz s).2≤14+2*Wt s:=by
 change (zaS (wantP [41] (listP zbe [] (wantP [40] (nameP s).2)).2)).2.e=0 at h
 have g1:=zaP s;have g2:=g1.trans (zan [40] _);have g3:=g2.trans (zbq zcj [] _);have g4:=g3.trans (zan [41] _);have h4:=(zc8 _).back h;have h3:=(zan [41] _).back h4;have h2:=(zbq zcj [] _).back h3;have h1:=(zan [40] _).back h2;obtain ⟨n1,w1⟩:=zcm a h1;have w2:=zbX h2;obtain ⟨c0,c1,c2⟩:=zoz (g2.all a) h3;have w4:=zbX h4;obtain ⟨o5,w5⟩:=zf2 (g4.all a) h;refine ⟨.source _ _ _ n1 c0 c1 o5,?_⟩;change (zaC [zba,(nameP s).1,40::(joinS [44,32] ((listP zbe [] (wantP [40] (nameP s).2)).1.map colT)++[41]),scT (zaS (wantP [41] (listP zbe [] (wantP [40] (nameP s).2)).2)).1]).length+2*Wt (zaS (wantP [41] (listP zbe [] (wantP [40] (nameP s).2)).2)).2≤_
 have hw:=zbI [zba,(nameP s).1,40::(joinS [44,32] ((listP zbe [] (wantP [40] (nameP s).2)).1.map colT)++[41]),scT (zaS (wantP [41] (listP zbe [] (wantP [40] (nameP s).2)).2)).1];simp only[List.map_cons,List.map_nil,List.sum_cons,List.sum_nil,yB,yA,yD,show zba.length=6 from rfl]at hw w2 w4;omega
theorem zmd {s:Ps} (a:AllOk s) (h:(zcl s).2.e=0):OkD (zcl s).1∧(dfT0 (zcl s).1).length+2*Wt (zcl s).2≤14+2*Wt s:=by
 change (topQ (wantP sDo (listP zbQ [] (wantP sFrom (zaS (nameP s).2).2)).2)).2.e=0 at h
 have g1:=zaP s;have g2:=g1.trans (zc8 _);have g3:=g2.trans (zan sFrom _);have g4:=g3.trans (zbq zcy [] _);have g5:=g4.trans (zan sDo _);have h5:=(zeV _).back h;have h4:=(zan sDo _).back h5;have h3:=(zbq zcy [] _).back h4;have h2:=(zan sFrom _).back h3;have h1:=(zc8 _).back h2;obtain ⟨n1,w1⟩:=zcm a h1;obtain ⟨o2,w2⟩:=zf2 (g1.all a) h2;have w3:=zbX h3;obtain ⟨i0,i1,i2⟩:=zpZ (g3.all a) h4;have w5:=zbX h5;obtain ⟨q1,q2,q3⟩:=zmo (g5.all a) h;refine ⟨.asset _ _ _ _ n1 o2 i0 i1 q1 q2,?_⟩
 change (zaC [zbl,(nameP s).1,scT (zaS (nameP s).2).1,sFrom,joinS [44,32] ((listP zbQ [] (wantP sFrom (zaS (nameP s).2).2)).1.map inT),sDo,textQ (topQ (wantP sDo (listP zbQ [] (wantP sFrom (zaS (nameP s).2).2)).2)).1]).length+2*Wt (topQ (wantP sDo (listP zbQ [] (wantP sFrom (zaS (nameP s).2).2)).2)).2≤_
 have hw:=zbI [zbl,(nameP s).1,scT (zaS (nameP s).2).1,sFrom,joinS [44,32] ((listP zbQ [] (wantP sFrom (zaS (nameP s).2).2)).1.map inT),sDo,textQ (topQ (wantP sDo (listP zbQ [] (wantP sFrom (zaS (nameP s).2).2)).2)).1];simp only[List.map_cons,List.map_nil,List.sum_cons,List.sum_nil,show zbl.length=5 from rfl,show sFrom.length=4 from rfl,show sDo.length=2 from rfl]at hw w3 w5;omega
theorem zhz {s:Ps} (a:AllOk s) (h:(za3 s).2.e=0):OkD (za3 s).1∧(dfT0 (za3 s).1).length+2*Wt (za3 s).2≤14+2*Wt s:=by
 change (zaL (wantP za1 (zae 3 (nameP s).2).2)).2.e=0 at h
 have g1:=zaP s;have g2:=g1.trans (zbh 3 (by decide) _);have g3:=g2.trans (zan za1 _);have h3:=(zfg _).back h;have h2:=(zan za1 _).back h3;have h1:=(zbh 3 (by decide) _).back h2;obtain ⟨n1,w1⟩:=zcm a h1;obtain ⟨o2,w2⟩:=zq5 (g1.all a) h2;have w3:=zbX h3;obtain ⟨m0,m1,m2⟩:=zgU (g3.all a) h;refine ⟨.schedule _ _ _ n1 o2 m0 m1,?_⟩;change (zaC [zaG,(nameP s).1,Va.quotedL (zae 3 (nameP s).2).1.t,za1,joinS [44,32] (zaL (wantP za1 (zae 3 (nameP s).2).2)).1]).length+2*Wt (zaL (wantP za1 (zae 3 (nameP s).2).2)).2≤_
 have hw:=zbI [zaG,(nameP s).1,Va.quotedL (zae 3 (nameP s).2).1.t,za1,joinS [44,32] (zaL (wantP za1 (zae 3 (nameP s).2).2)).1];simp only[List.map_cons,List.map_nil,List.sum_cons,List.sum_nil,show zaG.length=8 from rfl,show za1.length=5 from rfl]at hw w3;omega
theorem zqo {s:Ps} (a:AllOk s) (h:(defP s).2.e=0):OkD (defP s).1∧(dfT (defP s).1).length+2*Wt (defP s).2≤2*Wt s:=by
 change (wantP [59] (defK (oneP zal s).1 (oneP zal s).2).2).e=0 at h
 show OkD (defK (oneP zal s).1 (oneP zal s).2).1∧(dfT (defK (oneP zal s).1 (oneP zal s).2).1).length+2*Wt (wantP [59] (defK (oneP zal s).1 (oneP zal s).2).2)≤_
 have g1:=zbW zal s;have h2:=(zan [59] _).back h;have h1:=(zeW _ _).back h2;obtain ⟨k,k1,k2,w1⟩:=zd6 h1;have w3:=zbX h;have a1:=g1.all a;rw[k2]at h h2 w3 ⊢;generalize (oneP zal s).2=z at *
 simp only[yB,yD]at w3;unfold dfT;rw[yA];match k,k1 with
 | 0,_ =>
  change (zbz z).2.e=0 at h2
  obtain ⟨o,w⟩:=zju a1 h2;have e:defK (1+0) z=zbz z:=rfl;rw[e]at w3 ⊢;have hl:(zal.getD 0 []).length=6:=rfl;rw[hl]at w1;refine ⟨o,?_⟩;simp only[yB,yD];omega
 | 1,_ =>
  change (zcl z).2.e=0 at h2
  obtain ⟨o,w⟩:=zmd a1 h2;have e:defK (1+1) z=zcl z:=rfl;rw[e]at w3 ⊢;have hl:(zal.getD 1 []).length=5:=rfl;rw[hl]at w1;refine ⟨o,?_⟩;simp only[yB,yD];omega
 | 2,_ =>
  change (za3 z).2.e=0 at h2
  obtain ⟨o,w⟩:=zhz a1 h2;have e:defK (1+2) z=za3 z:=rfl;rw[e]at w3 ⊢;have hl:(zal.getD 2 []).length=8:=rfl;rw[hl]at w1;refine ⟨o,?_⟩;simp only[yB,yD];omega
 | k+3,h=>exact absurd h (by show ¬ k+3<3;omega)
theorem zi9:∀ (fuel:Nat) (acc:List Df) (s:Ps),AllOk s→(za4 fuel acc s).2.e=0→∃ ds,(za4 fuel acc s).1=acc++ds∧(∀ d∈ds,OkD d)∧(defsT ds).length+2*Wt (za4 fuel acc s).2≤2*Wt s
 | 0,acc,s,a,h=>⟨[],by rw[List.append_nil];rfl,fun d hd=>by simp at hd,by show 0+2*Wt s≤_;omega⟩
 | fuel+1,acc,s,a,h=>by
  unfold za4 at h ⊢;by_cases hc:s.e=0∧s.i<s.T.length
  ·rw[if_pos hc]at h ⊢;have h1:=(zb5 fuel _ _).back h;obtain ⟨o,w⟩:=zqo a h1;obtain ⟨ds,e1,e2,e3⟩:=zi9 fuel _ _ ((zhX s).all a) h;refine ⟨(defP s).1::ds,by rw[e1,yM];rfl,fun d hd=>by rcases List.mem_cons.1 hd with rfl|hd;exact o;exact e2 d hd,?_⟩;show (dfT (defP s).1++defsT ds).length+_≤_
   rw[yA];omega
  ·rw[if_neg hc]at h ⊢;exact ⟨[],by rw[List.append_nil],fun d hd=>by simp at hd,by show 0+2*Wt s≤_;omega⟩
theorem zgQ {l:Str} (h:(zaJ l).2.2=0):(∀ d∈(zaJ l).1,OkD d)∧(defsT (zaJ l).1).length≤4*l.length∧(zaJ l).2.1=l.length:=by
 rw[zga]at h ⊢;unfold allR at h ⊢;by_cases he:(allP (defsP (openP l)).2).e=0
 ·rw[if_pos he];have hs:(defsP (openP l)).2.e=0:=by
   apply Classical.byContradiction;intro hn;rw[zdj hn]at he;exact hn he
  obtain ⟨ds,e1,e2,e3⟩:=zi9 _ [] (openP l) (zjn l).2.2 hs;have h5:=zmf l;have e1':(defsP (openP l)).1=ds:=e1;rw[e1'];refine ⟨e2,by omega,(zb5 _ _ _).E⟩
 ·rw[if_neg he]at h;exact absurd h he
def Rl (n:Nat) (s s':Ps):Prop:=s'.e=s.e∧∀ j,j<n→(s'.T[s'.i+j]?).map tri=(s.T[s.i+j]?).map tri
structure Loc {α:Type} (f:Ps→α×Ps):Prop where
 go:∀ s,Goes s (f s).2
 eq:∀ n s s',Rl n s s'→(f s).2.i<s.i+n→(f s').1=(f s).1∧(f s').2.e=(f s).2.e∧(f s').2.i+s.i=(f s).2.i+s'.i
theorem Rl.on {n c:Nat} {s s' t t':Ps} (h:Rl n s s') (e1:t.T=s.T) (e2:t'.T=s'.T) (e3:t.i=s.i+c) (e4:t'.i=s'.i+c) (e5:t'.e=t.e):Rl (n-c) t t' :=
 ⟨e5,fun j hj=>by rw[e1,e2,e3,e4,Nat.add_assoc,Nat.add_assoc];exact h.2 (c+j) (by omega)⟩
theorem Rl.peek {n:Nat} {s s':Ps} (h:Rl n s s') (hn:0<n):tri (peekP s')=tri (peekP s):=by
 unfold peekP;by_cases he:s.e=0
 ·rw[if_pos he,if_pos (h.1.trans he)];have h0:=h.2 0 hn;rw[Nat.add_zero,Nat.add_zero]at h0;rw[List.getD_eq_getElem?_getD,List.getD_eq_getElem?_getD]
  cases h1:s.T[s.i]? with
  | none =>
   cases h2:s'.T[s'.i]? with
   | none=>rfl
   | some t=>rw[h1,h2]at h0;cases h0
  | some u =>
   cases h2:s'.T[s'.i]? with
   | none=>rw[h1,h2]at h0;cases h0
   | some t=>rw[h1,h2]at h0;simpa using h0
 ·rw[if_neg he,if_neg (by rw[h.1];exact he)]
theorem Rl.k {n:Nat} {s s':Ps} (h:Rl n s s') (hn:0<n):(peekP s').k=(peekP s).k:=congrArg (·.1) (h.peek hn)
theorem Rl.t {n:Nat} {s s':Ps} (h:Rl n s s') (hn:0<n):(peekP s').t=(peekP s).t:=congrArg (·.2.1) (h.peek hn)
theorem Rl.n {n:Nat} {s s':Ps} (h:Rl n s s') (hn:0<n):(peekP s').n=(peekP s).n:=congrArg (·.2.2) (h.peek hn)
theorem Rl.is {n:Nat} {s s':Ps} (h:Rl n s s') (hn:0<n) (x:Str):isP s' x=isP s x:=by
 unfold isP;rw[h.k hn,h.t hn]
theorem Rl.adv {n:Nat} {s s':Ps} (h:Rl n s s'):Rl (n-1) (advP s) (advP s'):=h.on rfl rfl rfl rfl h.1
theorem Loc.rl {α:Type} {f:Ps→α×Ps} (hf:Loc f) {n:Nat} {s s':Ps} (h:Rl n s s') (hb:(f s).2.i<s.i+n):Rl (n-((f s).2.i-s.i)) (f s).2 (f s').2:=by
 obtain ⟨_,h2,h3⟩:=hf.eq n s s' h hb;have g1:=(hf.go s).i;have g2:=(hf.go s').i;exact h.on (hf.go s).T (hf.go s').T (by omega) (by omega) h2
theorem Loc.bind {α β:Type} {f:Ps→α×Ps} {g:α→Ps→β×Ps} (hf:Loc f) (hg:∀ a,Loc (g a)):Loc fun s=>g (f s).1 (f s).2 :=
 ⟨fun s=>(hf.go s).trans ((hg _).go _),fun n s s' h hb=>by
  have g1:=(hf.go s).i;have g2:=((hg (f s).1).go (f s).2).i;have hb1:(f s).2.i<s.i+n:=Nat.lt_of_le_of_lt g2 hb;obtain ⟨v1,e1,i1⟩:=hf.eq n s s' h hb1;have h2:=hf.rl h hb1;obtain ⟨v2,e2,i2⟩:=(hg (f s).1).eq _ _ _ h2 (by omega);try simp only
  rw[v1];exact ⟨v2,e2,by omega⟩⟩
theorem Loc.map {α β:Type} {f:Ps→α×Ps} (hf:Loc f) (h:α→β):Loc fun s=>(h (f s).1,(f s).2) :=
 ⟨hf.go,fun n s s' hr hb=>by
  obtain ⟨v1,e1,i1⟩:=hf.eq n s s' hr hb;exact ⟨congrArg h v1,e1,i1⟩⟩
theorem Loc.pure {α:Type} (a:α):Loc fun s=>(a,s):=⟨fun s=>Goes.refl s,fun n s s' h _=>⟨rfl,h.1,by simp only;omega⟩⟩
theorem zqT (s:Ps) (e:Int):(failP s e).i=s.i:=by unfold failP;split<;>rfl
theorem zqU (s:Ps) (e:Int):(failP s e).e=if s.e=0 then e else s.e:=by unfold failP;split<;>rfl
theorem Loc.fail {α:Type} (a:α) (e:Int) (he:e=51∨e=52):Loc fun s=>(a,failP s e) :=
 ⟨fun s=>zc9 s e he,fun n s s' h _=>⟨rfl,by simp only;rw[zqU,zqU,h.1],by simp only;rw[zqT,zqT];omega⟩⟩
theorem Loc.is {α:Type} {f g:Ps→α×Ps} (x:Str) (hf:Loc f) (hg:Loc g):Loc fun s=>if isP s x=true then f (advP s) else g s :=
 ⟨fun s=>by
  try simp only
  split
  ·rename_i h;exact (zaz h).trans (hf.go _)
  ·exact hg.go s,fun n s s' h hb=>by
  try simp only at hb ⊢
  by_cases hx:isP s x=true
  ·rw[if_pos hx]at hb ⊢;have gi:=(hf.go (advP s)).i;have hn:0<n:=by have:(advP s).i=s.i+1:=rfl;omega
   rw[if_pos (by rw[h.is hn];exact hx)];obtain ⟨v,e,i⟩:=hf.eq (n-1) _ _ h.adv (by have:(advP s).i=s.i+1:=rfl;omega);refine ⟨v,e,?_⟩;have i':(f (advP s')).2.i+(s.i+1)=(f (advP s)).2.i+(s'.i+1):=i;omega
  ·rw[if_neg hx]at hb ⊢;have gi:=(hg.go s).i;have hn:0<n:=by omega
   rw[if_neg (by rw[h.is hn];exact hx)];exact hg.eq n s s' h hb⟩
theorem Loc.see {α:Type} {f g:Ps→α×Ps} (x:Str) (hf:Loc f) (hg:Loc g):Loc fun s=>if isP s x=true then f s else g s :=
 ⟨fun s=>by
  try simp only
  split
  ·exact hf.go s
  ·exact hg.go s,fun n s s' h hb=>by
  try simp only at hb ⊢
  by_cases hx:isP s x=true
  ·rw[if_pos hx]at hb ⊢;have gi:=(hf.go s).i;rw[if_pos (by rw[h.is (by omega)];exact hx)];exact hf.eq n s s' h hb
  ·rw[if_neg hx]at hb ⊢;have gi:=(hg.go s).i;rw[if_neg (by rw[h.is (by omega)];exact hx)];exact hg.eq n s s' h hb⟩
theorem Loc.by' {α:Type} (c:Int→Str→Int→Prop) [∀ a b d,Decidable (c a b d)] {f g:Ps→α×Ps} (hf:Loc f) (hg:Loc g):Loc fun s=>if c (peekP s).k (peekP s).t (peekP s).n then f s else g s :=
 ⟨fun s=>by
  try simp only
  split
  ·exact hf.go s
  ·exact hg.go s,fun n s s' h hb=>by
  try simp only at hb ⊢
  by_cases hx:c (peekP s).k (peekP s).t (peekP s).n
  ·rw[if_pos hx]at hb ⊢;have gi:=(hf.go s).i;have hn:0<n:=by omega
   rw[if_pos (by rw[h.k hn,h.t hn,h.n hn];exact hx)];exact hf.eq n s s' h hb
  ·rw[if_neg hx]at hb ⊢;have gi:=(hg.go s).i;have hn:0<n:=by omega
   rw[if_neg (by rw[h.k hn,h.t hn,h.n hn];exact hx)];exact hg.eq n s s' h hb⟩
theorem Loc.take {α:Type} (c:Int→Str→Int→Prop) [∀ a b d,Decidable (c a b d)] (hc:∀ a b d,c a b d→a≠0) {f:Tk→Ps→α×Ps} {g:Ps→α×Ps} (hf:∀ t,Loc (f t)) (hg:Loc g):Loc fun s=>if c (peekP s).k (peekP s).t (peekP s).n then f (tri (peekP s)) (advP s) else g s :=
 ⟨fun s=>by
  try simp only
  split
  ·rename_i h;exact (zdg (hc _ _ _ h)).trans ((hf _).go _)
  ·exact hg.go s,fun n s s' h hb=>by
  try simp only at hb ⊢
  by_cases hx:c (peekP s).k (peekP s).t (peekP s).n
  ·rw[if_pos hx]at hb ⊢;have gi:=((hf (tri (peekP s))).go (advP s)).i;have hn:0<n:=by have:(advP s).i=s.i+1:=rfl;omega
   rw[if_pos (by rw[h.k hn,h.t hn,h.n hn];exact hx),h.peek hn];obtain ⟨v,e,i⟩:=(hf (tri (peekP s))).eq (n-1) _ _ h.adv (by have:(advP s).i=s.i+1:=rfl;omega);refine ⟨v,e,?_⟩;have i':(f (tri (peekP s)) (advP s')).2.i+(s.i+1)=(f (tri (peekP s)) (advP s)).2.i+(s'.i+1):=i;omega
  ·rw[if_neg hx]at hb ⊢;have gi:=(hg.go s).i;have hn:0<n:=by omega
   rw[if_neg (by rw[h.k hn,h.t hn,h.n hn];exact hx)];exact hg.eq n s s' h hb⟩
theorem zbj (x:Str):Loc fun s=>((),wantP x s):=by
 have:(fun s=>((),wantP x s))=fun s=>if isP s x=true then (fun t=>((),t)) (advP s) else ((),failP s 51):=by
  funext s;unfold wantP;split<;>rfl
 rw[this];exact (Loc.pure ()).is x (Loc.fail () 51 (.inl rfl))
theorem znw (x:Str):Loc fun s=>(isP s x,zdN x s):=by
 have:(fun s=>(isP s x,zdN x s))=fun s=>if isP s x=true then (fun t=>(true,t)) (advP s) else (false,s):=by
  funext s;unfold zdN
  cases h:isP s x<;>simp
 rw[this];exact (Loc.pure true).is x (Loc.pure false)
theorem zgg (k:Int) (hk:k≠0):Loc fun s=>(tri (zae k s).1,(zae k s).2):=by
 have:(fun s=>(tri (zae k s).1,(zae k s).2))=fun s=>if (fun a (_:Str) (_:Int)=>a=k) (peekP s).k (peekP s).t (peekP s).n then (fun t u=>(t,u)) (tri (peekP s)) (advP s) else (tri zTok,failP s 51):=by
  funext s;unfold zae;simp only;split<;>rfl
 rw[this];exact Loc.take (fun a (_:Str) (_:Int)=>a=k) (fun a _ _ h=>by rw[h];exact hk) (fun t=>Loc.pure t) (Loc.fail _ 51 (.inl rfl))
theorem zbT:Loc nameP:=(zgg 1 (by decide)).map (·.2.1)
theorem zfc:Loc fun s=>((zae 2 s).1.n,(zae 2 s).2):=(zgg 2 (by decide)).map (·.2.2)
theorem zpR:Loc fun s=>((zae 3 s).1.t,(zae 3 s).2):=(zgg 3 (by decide)).map (·.2.1)
theorem zgh:∀ (ws:List Str) (n:Nat),Loc (zeq n ws)
 | [],n=>Loc.fail 0 51 (.inl rfl)
 | w::ws,n=>(Loc.pure n).is w (zgh ws (n+1))
theorem zfb (ws:List Str):Loc (oneP ws):=zgh ws 1
theorem zfh {α:Type} {f:α→Ps→α×Ps} (hf:∀ a,Loc (f a)) (n:Nat) (a:α) (s:Ps):Goes s (zaQ f n a s).2:=zbH (fun a s=>(hf a).go s) n a s
theorem znu {α:Type} {f:α→Ps→α×Ps} (hf:∀ a,Loc (f a)):∀ (fuel fuel':Nat) (a:α) (n:Nat) (s s':Ps),Rl n s s'→s.T.length<fuel+s.i→s'.T.length<fuel'+s'.i→(zaQ f fuel a s).2.i<s.i+n→
 (zaQ f fuel' a s').1=(zaQ f fuel a s).1∧(zaQ f fuel' a s').2.e=(zaQ f fuel a s).2.e∧(zaQ f fuel' a s').2.i+s.i=(zaQ f fuel a s).2.i+s'.i
 | fuel,fuel',a,n,s,s',h,hf1,hf2,hb=>by
  have hn:0<n:=by have:=(zfh hf fuel a s).i;omega
  by_cases hx:isP s [44]=true
  ·have hx':isP s' [44]=true:=by rw[h.is hn];exact hx
   have l1:=(zbU hx).2;have l2:=(zbU hx').2;match fuel,fuel',hf1,hf2,hb with
   | 0,_,hf1,_,_=>omega
   | _,0,_,hf2,_=>omega
   | fuel+1,fuel'+1,hf1,hf2,hb =>
    rw[zcI hx]at hb;rw[zcI hx,zcI hx'];have g0:=(zfh hf fuel (f a (advP s)).1 (f a (advP s)).2).i;have g1:=(hf a).go (advP s);have g2:=(hf a).go (advP s');have g1i:s.i+1≤(f a (advP s)).2.i:=g1.i;have g2i:s'.i+1≤(f a (advP s')).2.i:=g2.i;have hb1:(f a (advP s)).2.i<(advP s).i+(n-1):=by have:(advP s).i=s.i+1:=rfl;omega
    obtain ⟨v,e,i⟩:=(hf a).eq (n-1) _ _ h.adv hb1;have hr:=(hf a).rl h.adv hb1;have i':(f a (advP s')).2.i+(s.i+1)=(f a (advP s)).2.i+(s'.i+1):=i;rw[v];have hT1:(f a (advP s)).2.T=s.T:=g1.T;have hT2:(f a (advP s')).2.T=s'.T:=g2.T;obtain ⟨q1,q2,q3⟩:=znu hf fuel fuel' (f a (advP s)).1 _ _ _ hr (by rw[hT1];omega) (by rw[hT2];omega) (by have:(advP s).i=s.i+1:=rfl;omega);exact ⟨q1,q2,by omega⟩
  ·have hx0:isP s [44]=false:=by simpa using hx
   have hx':isP s' [44]=false:=by rw[h.is hn];exact hx0
   rw[zdG hx0,zdG hx'];exact ⟨rfl,h.1,by simp only;omega⟩
theorem Loc.list {α:Type} {f:α→Ps→α×Ps} (hf:∀ a,Loc (f a)) (a:α):Loc (listP f a) :=
 ⟨zbq (fun a s=>(hf a).go s) a,fun n s s' h hb=>by
  unfold listP at hb ⊢;have g0:=(zfh hf (s.T.length+1) (f a s).1 (f a s).2).i;have g1:=(hf a).go s;have g2:=(hf a).go s';have g1i:=g1.i;have g2i:=g2.i;have hb1:(f a s).2.i<s.i+n:=by omega
  obtain ⟨v,e,i⟩:=(hf a).eq n _ _ h hb1;have hr:=(hf a).rl h hb1;rw[v];obtain ⟨q1,q2,q3⟩:=znu hf (s.T.length+1) (s'.T.length+1) (f a s).1 _ _ _ hr (by rw[g1.T];omega) (by rw[g2.T];omega) (by omega);exact ⟨q1,q2,by omega⟩⟩
theorem Rl.first {n:Nat} {s s':Ps} (h:Rl n s s') (hn:0<n):∀ ops,zaD ops s'=zaD ops s
 | []=>rfl
 | o::r=>by unfold zaD;rw[h.is hn,h.first hn r]
theorem zk2 {f:PE} (hf:Loc f) (ops:List Str):∀ (fuel fuel':Nat) (x:Ex) (n:Nat) (s s':Ps),Rl n s s'→s.T.length<fuel+s.i→s'.T.length<fuel'+s'.i→(zaM f ops fuel x s).2.i<s.i+n→
 (zaM f ops fuel' x s').1=(zaM f ops fuel x s).1∧(zaM f ops fuel' x s').2.e=(zaM f ops fuel x s).2.e∧(zaM f ops fuel' x s').2.i+s.i=(zaM f ops fuel x s).2.i+s'.i
 | fuel,fuel',x,n,s,s',h,hf1,hf2,hb=>by
  have hn:0<n:=by have:=(zby hf.go ops fuel x s).i;omega
  cases hx:zaD ops s with
  | some k =>
   have hx':zaD ops s'=some k:=by rw[h.first hn];exact hx
   obtain ⟨o,_,ho⟩:=zbA hx;obtain ⟨o',_,ho'⟩:=zbA hx';have l1:=(zbU ho).2;have l2:=(zbU ho').2;match fuel,fuel',hf1,hf2,hb with
   | 0,_,hf1,_,_=>omega
   | _,0,_,hf2,_=>omega
   | fuel+1,fuel'+1,hf1,hf2,hb =>
    rw[zcV hx]at hb;rw[zcV hx,zcV hx'];have g0:=(zby hf.go ops fuel (zaj (ops.getD k []) x (f (advP s)).1) (f (advP s)).2).i;have g1:=hf.go (advP s);have g2:=hf.go (advP s');have g1i:s.i+1≤(f (advP s)).2.i:=g1.i;have g2i:s'.i+1≤(f (advP s')).2.i:=g2.i;have hb1:(f (advP s)).2.i<(advP s).i+(n-1):=by have:(advP s).i=s.i+1:=rfl;omega
    obtain ⟨v,e,i⟩:=hf.eq (n-1) _ _ h.adv hb1;have hr:=hf.rl h.adv hb1;have i':(f (advP s')).2.i+(s.i+1)=(f (advP s)).2.i+(s'.i+1):=i;rw[v];have hT1:(f (advP s)).2.T=s.T:=g1.T;have hT2:(f (advP s')).2.T=s'.T:=g2.T;obtain ⟨q1,q2,q3⟩:=zk2 hf ops fuel fuel' (zaj (ops.getD k []) x (f (advP s)).1) _ _ _ hr (by rw[hT1];omega) (by rw[hT2];omega) (by have:(advP s).i=s.i+1:=rfl;omega);exact ⟨q1,q2,by omega⟩
  | none =>
   have hx':zaD ops s'=none:=by rw[h.first hn];exact hx
   rw[zdx hx,zdx hx'];exact ⟨rfl,h.1,by simp only;omega⟩
theorem Loc.chain {f:PE} (hf:Loc f) (ops:List Str):Loc (zaA f ops) :=
 ⟨zdu hf.go ops,fun n s s' h hb=>by
  unfold zaA at hb ⊢;have g0:=(zby hf.go ops (s.T.length+1) (f s).1 (f s).2).i;have g1:=hf.go s;have g2:=hf.go s';have g1i:=g1.i;have g2i:=g2.i;have hb1:(f s).2.i<s.i+n:=by omega
  obtain ⟨v,e,i⟩:=hf.eq n _ _ h hb1;have hr:=hf.rl h hb1;rw[v];obtain ⟨q1,q2,q3⟩:=zk2 hf ops (s.T.length+1) (s'.T.length+1) (f s).1 _ _ _ hr (by rw[g1.T];omega) (by rw[g2.T];omega) (by omega);exact ⟨q1,q2,by omega⟩⟩
theorem Loc.compare {f:PE} (hf:Loc f):Loc (zbw f) :=
 ⟨zfr hf.go,fun n s s' h hb=>by
  have g1:=(hf.go s).i;have gc:(f s).2.i≤(zbw f s).2.i:=by
   unfold zbw
   cases hx:zaD zcr (f s).2 with
   | none=>exact yG _
   | some k =>
    try simp only
    have:(advP (f s).2).i≤(f (advP (f s).2)).2.i:=(hf.go _).i;have e:(advP (f s).2).i=(f s).2.i+1:=rfl;omega
  have hb1:(f s).2.i<s.i+n:=by omega
  obtain ⟨v,e,i⟩:=hf.eq n _ _ h hb1;have hr:=hf.rl h hb1;have hfo:=hr.first (by omega) zcr;unfold zbw at hb ⊢;rw[hfo]
  cases hx:zaD zcr (f s).2 with
  | none=>exact ⟨v,e,i⟩
  | some k =>
   rw[hx]at hb;try simp only at hb ⊢
   have gi:(f s).2.i+1≤(f (advP (f s).2)).2.i:=(hf.go (advP (f s).2)).i;obtain ⟨v2,e2,i2⟩:=hf.eq _ _ _ hr.adv (by have:(advP (f s).2).i=(f s).2.i+1:=rfl;omega);have i2':(f (advP (f s').2)).2.i+((f s).2.i+1)=(f (advP (f s).2)).2.i+((f s').2.i+1):=i2;exact ⟨by rw[v,v2],e2,by omega⟩⟩
theorem Loc.not {f g:PE} (hf:Loc f) (hg:Loc g):Loc (notP f g):=(hf.map (zat sNot)).is sNot hg
theorem Loc.minus {f g:PE} (hf:Loc f) (hg:Loc g):Loc (zca f g):=by
 have e:zca f g=fun s=>if isP s [45]=true then (fun s=>if (fun a (_:Str) (m:Int)=>a=2∧0<m) (peekP s).k (peekP s).t (peekP s).n then (fun (t:Tk) u=>(zam ⟨1,-t.2.2,[]⟩,u)) (tri (peekP s)) (advP s) else (zat [45] (f s).1,(f s).2)) (advP s) else g s:=by
  funext s;rfl
 rw[e];exact (Loc.take (fun a (_:Str) (m:Int)=>a=2∧0<m) (fun a _ m h=>by rw[h.1];decide) (f:=fun (t:Tk) u=>(zam ⟨1,-t.2.2,[]⟩,u)) (fun t=>Loc.pure _) (hf.map (zat [45]))).is [45] hg
theorem Loc.arg {f:PE} (hf:Loc f) (acc:List Ex):Loc (argP f acc):=hf.map fun x=>acc++[x]
theorem Loc.ite {α:Type} (c:Prop) [Decidable c] {f g:Ps→α×Ps} (hf:Loc f) (hg:Loc g):Loc fun s=>if c then f s else g s:=by
 by_cases h:c
 ·simp only[if_pos h];exact hf
 ·simp only[if_neg h];exact hg
theorem Loc.prim {f g:PE} (hf:Loc f) (hg:Loc g):Loc (primP f g):=by
 have e:primP f g=fun s =>
  if (fun a (_:Str) (_:Int)=>a=2) (peekP s).k (peekP s).t (peekP s).n then (fun (t:Tk) u=>(zam ⟨1,t.2.2,[]⟩,u)) (tri (peekP s)) (advP s)
  else (fun s=>if (fun a (_:Str) (_:Int)=>a=3) (peekP s).k (peekP s).t (peekP s).n then (fun (t:Tk) u=>(zam ⟨2,0,t.2.1⟩,u)) (tri (peekP s)) (advP s)
  else (fun s=>if isP s sNull=true then (fun u=>(zam zV,u)) (advP s)
  else (fun s=>if isP s [40]=true then g s
  else (fun s=>if (fun a (t:Str) (_:Int)=>¬ (a≠1∨t=sAnd∨t=sOr∨t=sNot)) (peekP s).k (peekP s).t (peekP s).n then
   (fun (t:Tk) u=>if isP u [40]=true then (fun u=>(callE t.2.1 (listP (argP f) [] u).1,wantP [41] (listP (argP f) [] u).2)) (advP u) else (zax t.2.1,u)) (tri (peekP s)) (advP s)
  else (zEx,failP s 51)) s) s) s) s:=by
  funext s
  unfold primP;simp only[tri,ite_not]
 rw[e];have hcall:∀ t:Tk,Loc fun u=>(callE t.2.1 (listP (argP f) [] u).1,wantP [41] (listP (argP f) [] u).2):=fun t =>
  (Loc.list (fun acc=>hf.arg acc) []).bind fun xs=>(zbj [41]).map fun _=>callE t.2.1 xs
 exact Loc.take (fun a (_:Str) (_:Int)=>a=2) (fun a _ _ h=>by rw[h];decide) (f:=fun (t:Tk) u=>(zam ⟨1,t.2.2,[]⟩,u)) (fun t=>Loc.pure _)
  (Loc.take (fun a (_:Str) (_:Int)=>a=3) (fun a _ _ h=>by rw[h];decide) (f:=fun (t:Tk) u=>(zam ⟨2,0,t.2.1⟩,u)) (fun t=>Loc.pure _)
  ((Loc.pure (zam zV)).is sNull (Loc.see [40] hg
  (Loc.take (fun a (t:Str) (_:Int)=>¬ (a≠1∨t=sAnd∨t=sOr∨t=sNot)) (fun a t _ h e=>h (.inl (by rw[e];decide))) (f:=fun (t:Tk) u=>if isP u [40]=true then (fun u=>(callE t.2.1 (listP (argP f) [] u).1,wantP [41] (listP (argP f) [] u).2)) (advP u) else (zax t.2.1,u)) (fun t=>(hcall t).is [40] (Loc.pure _)) (Loc.fail _ 51 (.inl rfl))))))
theorem Loc.paren {f:PE} (hf:Loc f):Loc (zb9 f):=(zbj [40]).bind fun _=>hf.bind fun x=>(zbj [41]).map fun _=>x
structure LocD (D:Dp):Prop where
 dor:Loc D.dor
 dnot:Loc D.dnot
 dminus:Loc D.dminus
 dparen:Loc D.dparen
section
variable {D:Dp} (h:LocD D)
include h
theorem LocD.pr:Loc (prL D):=h.dor.prim h.dparen
theorem LocD.mn:Loc (mnL D):=h.dminus.minus h.pr
theorem LocD.pd:Loc (pdL D):=h.mn.chain _
theorem LocD.sm:Loc (smL D):=h.pd.chain _
theorem LocD.cm:Loc (cmL D):=h.sm.compare
theorem LocD.nt:Loc (ntL D):=h.dnot.not h.cm
theorem LocD.an:Loc (anL D):=h.nt.chain _
theorem LocD.or:Loc (orL D):=h.an.chain _
end
theorem zdT:∀ n,LocD (deepN n)
 | 0=>⟨Loc.fail _ 52 (.inr rfl),Loc.fail _ 52 (.inr rfl),Loc.fail _ 52 (.inr rfl),Loc.fail _ 52 (.inr rfl)⟩
 | n+1=>⟨(zdT n).or,(zdT n).nt,(zdT n).mn,(zdT n).or.paren⟩
theorem ziL:Loc zak:=(zdT 32).dor
theorem ziP:Loc zaL:=Loc.list (fun acc=>zbT.map fun n=>acc++[n]) []
theorem ziQ (a:List Ex×List Str):Loc (zay a):=ziL.bind fun x=>(zbj sAs).bind fun _=>zbT.map fun n=>(a.1++[x],a.2++[n])
theorem ziO (a:List (Str×Str)):Loc (zaU a):=zbT.bind fun x=>(zbj [61]).bind fun _=>zbT.map fun n=>a++[(x,n)]
theorem zlO:Loc zbi:=(Loc.pure []).see [41] zbT
theorem zjR (a:List (Str×Str×Str)):Loc (zah a):=(zfb zag).bind fun i=>(zbj [40]).bind fun _=>zlO.bind fun c=>(zbj [41]).bind fun _=>(zbj sAs).bind fun _=>zbT.map fun n=>a++[(aggOp i,c,n)]
theorem zhL (a:List (Str×Bool)):Loc (zaW a):=zbT.bind fun n=>(znw sDown).map fun b=>a++[(n,b)]
theorem zd7 {dp:PQ} (h:Loc dp):Loc (partP dp):=h.see [40] (zbT.map scanL)
theorem zkL {dp:PQ} (h:Loc dp):Loc (joinP dp):=(zd7 h).bind fun b=>(zbj sOn).bind fun _=>(Loc.list ziO []).map fun l=>(b,l)
theorem zgD:Loc zav:=(Loc.pure []).see [58] ziP
theorem zhM:Loc zaO:=Loc.by' (fun a (_:Str) (_:Int)=>a=1) (Loc.list zjR []) (Loc.pure [])
theorem znx:Loc za2:=zgD.bind fun n=>(zbj [58]).bind fun _=>zhM.map fun g=>(n,g)
theorem zjP:Loc za5:=(Loc.list zhL []).is sBy (Loc.pure [])
theorem zny:Loc zck:=zfc.bind fun n=>zjP.map fun o=>(n,o)
theorem znv {dp:PQ} (h:Loc dp) (q:Pl) (i:Nat):Loc (stepK dp q i):=by
 unfold stepK;refine Loc.ite _ (ziL.map fun x=>Pl.mk 2 [] [q] x [] [] [] [] [] 0) ?_;refine Loc.ite _ ((Loc.list ziQ ([],[])).map fun l=>Pl.mk 3 [] [q] zEx l.2 l.1 [] [] [] 0) ?_;refine Loc.ite _ ((zkL h).map fun l=>Pl.mk 4 [] [q,l.1] zEx [] [] l.2 [] [] 0) ?_;refine Loc.ite _ ((zkL h).map fun l=>Pl.mk 5 [] [q,l.1] zEx [] [] l.2 [] [] 0) ?_;refine Loc.ite _ (znx.map fun l=>Pl.mk 6 [] [q] zEx l.1 [] [] l.2 [] 0) ?_;refine Loc.ite _ ((zd7 h).map fun l=>Pl.mk 7 [] [q,l] zEx [] [] [] [] [] 0) ?_;refine Loc.ite _ (Loc.pure _) ?_;refine Loc.ite _ (zny.map fun l=>Pl.mk 9 [] [q] zEx [] [] [] [] l.2 l.1) ?_;exact Loc.pure _
theorem zfK {dp:PQ} (h:Loc dp) (q:Pl):Loc (stepP dp q):=(zfb zaq).bind fun i=>znv h q i
theorem zkC {dp:PQ} (hd:Loc dp):∀ (fuel fuel':Nat) (q:Pl) (n:Nat) (s s':Ps),Rl n s s'→s.T.length<fuel+s.i→s'.T.length<fuel'+s'.i→(zaI dp fuel q s).2.i<s.i+n→
 (zaI dp fuel' q s').1=(zaI dp fuel q s).1∧(zaI dp fuel' q s').2.e=(zaI dp fuel q s).2.e∧(zaI dp fuel' q s').2.i+s.i=(zaI dp fuel q s).2.i+s'.i
 | fuel,fuel',q,n,s,s',h,hf1,hf2,hb=>by
  have hn:0<n:=by have:=(zbm hd.go fuel q s).i;omega
  by_cases hx:isP s [124]=true
  ·have hx':isP s' [124]=true:=by rw[h.is hn];exact hx
   have l1:=(zbU hx).2;have l2:=(zbU hx').2;match fuel,fuel',hf1,hf2,hb with
   | 0,_,hf1,_,_=>omega
   | _,0,_,hf2,_=>omega
   | fuel+1,fuel'+1,hf1,hf2,hb =>
    rw[zcx hx]at hb;rw[zcx hx,zcx hx'];have g0:=(zbm hd.go fuel (stepP dp q (advP s)).1 (stepP dp q (advP s)).2).i;have g1:=(zfK hd q).go (advP s);have g2:=(zfK hd q).go (advP s');have g1i:s.i+1≤(stepP dp q (advP s)).2.i:=g1.i;have g2i:s'.i+1≤(stepP dp q (advP s')).2.i:=g2.i;have hb1:(stepP dp q (advP s)).2.i<(advP s).i+(n-1):=by have:(advP s).i=s.i+1:=rfl;omega
    obtain ⟨v,e,i⟩:=(zfK hd q).eq (n-1) _ _ h.adv hb1;have hr:=(zfK hd q).rl h.adv hb1;have i':(stepP dp q (advP s')).2.i+(s.i+1)=(stepP dp q (advP s)).2.i+(s'.i+1):=i;rw[v];have hT1:(stepP dp q (advP s)).2.T=s.T:=g1.T;have hT2:(stepP dp q (advP s')).2.T=s'.T:=g2.T;obtain ⟨q1,q2,q3⟩:=zkC hd fuel fuel' (stepP dp q (advP s)).1 _ _ _ hr (by rw[hT1];omega) (by rw[hT2];omega) (by have:(advP s).i=s.i+1:=rfl;omega);exact ⟨q1,q2,by omega⟩
  ·have hx0:isP s [124]=false:=by simpa using hx
   have hx':isP s' [124]=false:=by rw[h.is hn];exact hx0
   rw[zc0 hx0,zc0 hx'];exact ⟨rfl,h.1,by simp only;omega⟩
theorem ziN {dp:PQ} (hd:Loc dp):Loc (za6 dp) :=
 ⟨zea hd.go,fun n s s' h hb=>by
  unfold za6 at hb ⊢;have g0:=(zbm hd.go (s.T.length+1) (partP dp s).1 (partP dp s).2).i;have g1:=(zd7 hd).go s;have g2:=(zd7 hd).go s';have g1i:=g1.i;have g2i:=g2.i;have hb1:(partP dp s).2.i<s.i+n:=by omega
  obtain ⟨v,e,i⟩:=(zd7 hd).eq n _ _ h hb1;have hr:=(zd7 hd).rl h hb1;rw[v];obtain ⟨q1,q2,q3⟩:=zkC hd (s.T.length+1) (s'.T.length+1) (partP dp s).1 _ _ _ hr (by rw[g1.T];omega) (by rw[g2.T];omega) (by omega);exact ⟨q1,q2,by omega⟩⟩
theorem zlM {q:PQ} (h:Loc q):Loc (zdL q):=(zbj [40]).bind fun _=>h.bind fun x=>(zbj [41]).map fun _=>x
theorem ziR:∀ n,Loc (dparN n)
 | 0=>Loc.fail _ 52 (.inr rfl)
 | n+1=>zlM (ziN (ziR n))
theorem zpQ:Loc topQ:=ziN (ziR 31)
theorem zgW:Loc zaS:=(zfb zaw).bind fun k=>zfc.bind fun f=>(zbj [46,46]).bind fun _=>zfc.map fun l=>(⟨(k:Int),f,l⟩:Sc)
theorem zjQ (a:List (Str×Int)):Loc (zbe a):=zbT.bind fun n=>(zfb [sInt,sText]).map fun k=>a++[(n,(k:Int))]
theorem zlL:Loc zbz:=zbT.bind fun n=>(zbj [40]).bind fun _=>(Loc.list zjQ []).bind fun cs=>(zbj [41]).bind fun _=>zgW.map fun sc=>(⟨1,n,cs,sc,[],zPl,[],[]⟩:Df)
theorem zpS (i:Nat):Loc (mapK i):=by
 unfold mapK;refine Loc.ite _ zfc (Loc.ite _ ?_ (Loc.pure 0));exact (zfc.map fun n=>-n).is [45] zfc
theorem zjO:Loc zab:=(zfb zaf).bind fun k=>(zpS k).map fun n=>((k:Int),n)
theorem zlN (a:List Inp):Loc (zbQ a):=zbT.bind fun x=>zjO.bind fun m=>(zbj sAs).bind fun _=>zbT.map fun n=>a++[(⟨x,m.1,m.2,n⟩:Inp)]
theorem znz:Loc zcl:=zbT.bind fun n=>zgW.bind fun c=>(zbj sFrom).bind fun _=>(Loc.list zlN []).bind fun l=>(zbj sDo).bind fun _=>zpQ.map fun q=>(⟨2,n,[],c,l,q,[],[]⟩:Df)
theorem ziM:Loc za3:=zbT.bind fun n=>zpR.bind fun c=>(zbj za1).bind fun _=>ziP.map fun m=>(⟨3,n,[],zSc,[],zPl,c,m⟩:Df)
theorem zpT (i:Nat):Loc (defK i):=Loc.ite _ zlL (Loc.ite _ znz (Loc.ite _ ziM (Loc.pure _)))
theorem zhN:Loc fun s=>defK (oneP zal s).1 (oneP zal s).2:=(zfb zal).bind fun i=>zpT i
theorem ztH {n:Nat} {s s':Ps} (h:Rl n s s') (he:(defP s).2.e=0) (hb:(defP s).2.i≤s.i+n):(defP s').1=(defP s).1∧(defP s').2.e=0∧(defP s').2.i+s.i=(defP s).2.i+s'.i:=by
 obtain ⟨x,hx⟩:∃ x,defK (oneP zal s).1 (oneP zal s).2=x:=⟨_,rfl⟩;have e1:defP s=(x.1,wantP [59] x.2):=by unfold defP;rw[hx]
 rw[e1]at he hb ⊢;simp only at he hb ⊢;obtain ⟨w1,w2⟩:=ze5 he;rw[w2]at hb ⊢;have hb':x.2.i+1≤s.i+n:=hb;obtain ⟨v,e,i⟩:=zhN.eq n s s' h (by rw[hx];omega);have hr:=zhN.rl h (by rw[hx];omega);have gi:=(zhN.go s).i;simp only[hx]at v e i hr gi;obtain ⟨x',hx'⟩:∃ x',defK (oneP zal s').1 (oneP zal s').2=x':=⟨_,rfl⟩;have e2:defP s'=(x'.1,wantP [59] x'.2):=by unfold defP;rw[hx']
 rw[hx']at v e i hr;have hw':isP x'.2 [59]=true:=by rw[hr.is (by omega)];exact w1
 rw[e2];try simp only
 unfold wantP;rw[if_pos hw'];refine ⟨v,?_,?_⟩
 ·show x'.2.e=0
  rw[e];exact (zbU w1).1
 ·show x'.2.i+1+s.i=x.2.i+1+s'.i
  omega
