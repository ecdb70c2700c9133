/- Definitions: their text, their tokens, what is well formed; their own tokens are read back as them. No program in sight. Definitions: their text is cut into their tokens; what is read is well formed, and has a text that tells it again. No program in sight. Definitions: what is read is well formed, its text not much longer than what it was read from. No program in sight. The plain law of the reader: it looks at nothing but the tokens that it takes, and the one behind them; where they begin is all one. No program in sight. -/
import Derived.Test.YtonkjhmkppeagaaGreatDoorVQy
set_option linter.unusedVariables false
namespace Go.Proofs.YtonkjhmkppeagaaGreatDoor.Pz
open Go.Proofs.Tryz
open Go Go.RowKit Lx
def wAt (ws:List Str) (k:Int):Str:=ws.getD (k.toNat-1) []
def colT (c:Str×Int):Str:=c.1++(32::(if 2≤c.2 then sText else sInt))
def scT (s:Sc):Str:=if 1≤s.k∧s.k≤5 then wAt zax s.k++(32::(Lib.itoa s.f++([46,46]++Lib.itoa s.l))) else []
def inN (x:Inp):Str:=if x.k=2∨x.k=3 then Lib.itoa x.n else []
def inT (x:Inp):Str:=if 1≤x.k∧x.k≤5 then zav [x.a,wAt zaf x.k,inN x,sAs,x.s] else []
def dfT0 (d:Df):Str :=
 if d.k=1 then zav [zbd,d.nm,40::(joinS [44,32] (d.sch.map colT)++[41]),scT d.sc]
 else if d.k=2 then zav [zbr,d.nm,scT d.sc,sFrom,joinS [44,32] (d.ins.map inT),sDo,textQ d.plan]
 else zav [zaG,d.nm,Va.quotedL d.cron,za0,joinS [44,32] d.mks]
def dfT (d:Df):Str:=dfT0 d++[59,10]
def defsT (l:List Df):Str:=(l.map dfT).flatten
def colK2 (c:Str×Int):List Tk:=[(1,c.1,0),(1,if 2≤c.2 then sText else sInt,0)]
def scK (s:Sc):List Tk:=[(1,wAt zax s.k,0),(2,[],s.f),(4,[46,46],0),(2,[],s.l)]
def inNK (x:Inp):List Tk:=if x.k=2 then [(2,[],x.n)] else if x.k=3 then (if x.n<0 then [(4,[45],0),(2,[],-x.n)] else [(2,[],x.n)]) else []
def inK (x:Inp):List Tk:=(1,x.a,0)::(1,wAt zaf x.k,0)::(inNK x++[(1,sAs,0),(1,x.s,0)])
def nameK (n:Str):List Tk:=[(1,n,0)]
def dfK0 (d:Df):List Tk :=
 if d.k=1 then (1,zbd,0)::(1,d.nm,0)::(4,[40],0)::(joinK (d.sch.map colK2)++(4,[41],0)::scK d.sc)
 else if d.k=2 then (1,zbr,0)::(1,d.nm,0)::(scK d.sc++(1,sFrom,0)::(joinK (d.ins.map inK)++(1,sDo,0)::tkQ d.plan))
 else (1,zaG,0)::(1,d.nm,0)::(3,d.cron,0)::(1,za0,0)::joinK (d.mks.map nameK)
def dfK (d:Df):List Tk:=dfK0 d++[(4,[59],0)]
def defsK (l:List Df):List Tk:=(l.map dfK).flatten
def OkSc (s:Sc):Prop:=(1≤s.k∧s.k≤5)∧(0≤s.f∧s.f≤9223372036854775807)∧(0≤s.l∧s.l≤9223372036854775807)
def OkIn (x:Inp):Prop:=zan x.a∧zan x.s∧(1≤x.k∧x.k≤5)∧(x.k=2→0≤x.n∧x.n≤9223372036854775807)∧(x.k=3→-9223372036854775807≤x.n∧x.n≤9223372036854775807)∧(x.k≠2→x.k≠3→x.n=0)
inductive OkD:Df→Prop
 | source (n:Str) (cs:List (Str×Int)) (s:Sc) (hn:zan n) (h0:cs≠[]) (hc:∀ c∈cs,zan c.1∧(c.2=1∨c.2=2)) (hs:OkSc s):OkD ⟨1,n,cs,s,[],zPl,[],[]⟩
 | asset (n:Str) (s:Sc) (ins:List Inp) (p:Pl) (hn:zan n) (hs:OkSc s) (h0:ins≠[]) (hi:∀ x∈ins,OkIn x) (hp:OkQ p) (hd:deepQ p≤31):OkD ⟨2,n,[],s,ins,p,[],[]⟩
 | schedule (n c:Str) (ms:List Str) (hn:zan n) (hc:TokOk ⟨3,c,0,0⟩) (h0:ms≠[]) (hm:∀ m∈ms,zan m):OkD ⟨3,n,[],zSc,[],zPl,c,ms⟩
theorem zkn {k:Int} (h:1≤k∧k≤5):∃ j,zeo (wAt zax k) zax=some j∧((1+j:Nat):Int)=k:=by
 obtain ⟨h1,h2⟩:=h;have:k=1∨k=2∨k=3∨k=4∨k=5:=by omega
 rcases this with rfl|rfl|rfl|rfl|rfl
 ·exact ⟨0,by decide,rfl⟩
 ·exact ⟨1,by decide,rfl⟩
 ·exact ⟨2,by decide,rfl⟩
 ·exact ⟨3,by decide,rfl⟩
 ·exact ⟨4,by decide,rfl⟩
theorem zp7 {k:Int} (h:1≤k∧k≤5):∃ j,zeo (wAt zaf k) zaf=some j∧((1+j:Nat):Int)=k:=by
 obtain ⟨h1,h2⟩:=h;have:k=1∨k=2∨k=3∨k=4∨k=5:=by omega
 rcases this with rfl|rfl|rfl|rfl|rfl
 ·exact ⟨0,by decide,rfl⟩
 ·exact ⟨1,by decide,rfl⟩
 ·exact ⟨2,by decide,rfl⟩
 ·exact ⟨3,by decide,rfl⟩
 ·exact ⟨4,by decide,rfl⟩
theorem zfN {s:Ps} {x:Sc} {rest:List Tk} (hx:OkSc x) (a:At s (scK x++rest)):zaS s=(x,advN s (scK x).length):=by
 obtain ⟨j,j1,j2⟩:=zkn hx.1;obtain ⟨e1,h1⟩:=zdH (ws:=zax) (.inl rfl) (rest:=(2,[],x.f)::(4,[46,46],0)::(2,[],x.l)::rest) a j1;obtain ⟨e2,e3,h2⟩:=zgx h1;obtain ⟨e4,h3⟩:=zbC (.inr rfl) h2;obtain ⟨e5,e6,h4⟩:=zgx h3;unfold zaS;rw[e1];simp only;rw[e2,e3,e4,e5,e6,j2];rfl
theorem zpu {c:Str×Int} {a:List (Str×Int)} {s:Ps} {r:List Tk} (hc:c.2=1∨c.2=2) (h:At s (colK2 c++r)):zbj a s=(a++[c],advN s (colK2 c).length):=by
 obtain ⟨e1,h1⟩:=zb3 (rest:=(1,if 2≤c.2 then sText else sInt,0)::r) h;obtain ⟨n,t⟩:=c;unfold zbj;rw[e1];simp only at hc h1 ⊢;rcases hc with rfl|rfl
 ·obtain ⟨e2,h2⟩:=zdH (ws:=[sInt,sText]) (j:=0) (.inl rfl) h1 (by rw[if_neg (by decide)];decide);rw[e2];rfl
 ·obtain ⟨e2,h2⟩:=zdH (ws:=[sInt,sText]) (j:=1) (.inl rfl) h1 (by rw[if_pos (by decide)];decide);rw[e2];rfl
theorem znG {s:Ps} {cs:List (Str×Int)} {rest:List Tk} (h0:cs≠[]) (hc:∀ c∈cs,c.2=1∨c.2=2) (a:At s (joinK (cs.map colK2)++rest)) (hn:isK rest [44]=false):listP zbj [] s=(cs,advN s (joinK (cs.map colK2)).length):=by
 rw[zc3 (f:=zbj) (tk:=colK2) (put:=fun a n=>a++[n]) (stop:=zeP) (item:=fun c=>c.2=1∨c.2=2) (fun x a s r hx h _=>zpu hx h) (fun _=>trivial) trivial hn h0 [] hc a,zbL]
theorem zmB {x:Inp} {s:Ps} {j:Nat} (hj:((1+j:Nat):Int)=x.k) (hx:OkIn x) {r:List Tk} (h:At s (inNK x++(1,sAs,0)::r)):mapK (1+j) s=(x.n,advN s (inNK x).length):=by
 obtain ⟨_,_,hk,h2,h3,hz⟩:=hx;unfold mapK;unfold inNK at h ⊢;by_cases k2:x.k=2
 ·rw[if_pos k2]at h ⊢;rw[if_pos (by omega)];obtain ⟨e1,e2,_⟩:=zgx (rest:=(1,sAs,0)::r) h;rw[e1,e2];rfl
 ·rw[if_neg k2]at h ⊢;rw[if_neg (by omega)];by_cases k3:x.k=3
  ·rw[if_pos k3]at h ⊢;rw[if_pos (by omega)];by_cases hn:x.n<0
   ·rw[if_pos hn]at h ⊢;have h':At s ((4,[45],0)::(2,[],-x.n)::(1,sAs,0)::r):=h;rw[if_pos (by rw[is_at (.inr rfl) h'];decide)];obtain ⟨e1,e2,_⟩:=zgx h'.peek.2.1;rw[e1,e2];refine Prod.ext ?_ rfl;show -(-x.n)=x.n
    omega
   ·rw[if_neg hn]at h ⊢;have h':At s ((2,[],x.n)::(1,sAs,0)::r):=h;have hk2:(peekP s).k=2:=congrArg (·.1) h'.peek.1;rw[if_neg (by
     unfold isP;rw[hk2,decide_eq_false (fun h=>by rcases h.1 with h|h<;>exact absurd h (by decide))];decide)]
    obtain ⟨e1,e2,_⟩:=zgx h';rw[e1,e2];rfl
  ·rw[if_neg k3]at h ⊢;rw[if_neg (by omega),hz k2 k3];rfl
theorem zrf {x:Inp} {a:List Inp} {s:Ps} {r:List Tk} (hx:OkIn x) (h:At s (inK x++r)):zbR a s=(a++[x],advN s (inK x).length):=by
 obtain ⟨j,j1,j2⟩:=zp7 hx.2.2.1;have h0:At s ((1,x.a,0)::(1,wAt zaf x.k,0)::(inNK x++(1,sAs,0)::(1,x.s,0)::r)):=by
  have:inK x++r=(1,x.a,0)::(1,wAt zaf x.k,0)::(inNK x++(1,sAs,0)::(1,x.s,0)::r):=by
   unfold inK;rw[List.cons_append,List.cons_append,List.append_assoc];rfl
  rw[this]at h;exact h
 obtain ⟨e1,h1⟩:=zb3 h0;obtain ⟨e2,h2⟩:=zdH (ws:=zaf) (.inl rfl) h1 j1;have e3:=zmB j2 hx h2;obtain ⟨e4,h4⟩:=zbC (.inl rfl) h2.app;obtain ⟨e5,h5⟩:=zb3 h4;have em:zad (advP s)=((x.k,x.n),advN (advP (advP s)) (inNK x).length):=by
  unfold zad;rw[e2];simp only;rw[e3,j2]
 unfold zbR;rw[e1];simp only;rw[em];simp only;rw[e4,e5];refine Prod.ext rfl ?_;show advP (advP (advN (advP (advP s)) (inNK x).length))=advN s (inK x).length
 rw[zaD,zaD,zaD,zaD,zao,zao,zao,zao];congr 1
 unfold inK;simp only[List.length_cons,List.length_append,List.length_nil];omega
theorem zo2 {s:Ps} {ins:List Inp} {rest:List Tk} (h0:ins≠[]) (hi:∀ x∈ins,OkIn x) (a:At s (joinK (ins.map inK)++rest)) (hn:isK rest [44]=false):listP zbR [] s=(ins,advN s (joinK (ins.map inK)).length):=by
 rw[zc3 (f:=zbR) (tk:=inK) (put:=fun a n=>a++[n]) (stop:=zeP) (item:=OkIn) (fun x a s r hx h _=>zrf hx h) (fun _=>trivial) trivial hn h0 [] hi a,zbL]
theorem zfJ {n:Str} {cs:List (Str×Int)} {x:Sc} (h0:cs≠[]) (hc:∀ c∈cs,c.2=1∨c.2=2) (hs:OkSc x) {s:Ps} {rest:List Tk} (a:At s ((1,n,0)::(4,[40],0)::(joinK (cs.map colK2)++(4,[41],0)::(scK x++rest)))) :
 zbH s=(⟨1,n,cs,x,[],zPl,[],[]⟩,advN s (1+(1+((joinK (cs.map colK2)).length+(1+(scK x).length))))):=by
 obtain ⟨e1,h1⟩:=zb3 a;obtain ⟨e2,h2⟩:=zbC (.inr rfl) h1;have e3:=znG h0 hc h2 (by rw[zc5];decide);obtain ⟨e4,h4⟩:=zbC (.inr rfl) h2.app;have e5:=zfN hs h4;unfold zbH;rw[e1];simp only;rw[e2,e3];simp only;rw[e4,e5];simp only[zaD,zao,Nat.add_assoc]
theorem zg5 {n:Str} {x:Sc} {ins:List Inp} {p:Pl} (hs:OkSc x) (h0:ins≠[]) (hi:∀ x∈ins,OkIn x) (hp:OkQ p) (hd:deepQ p≤31) {s:Ps} {rest:List Tk} (st:Sg qE rest) (a:At s ((1,n,0)::(scK x++(1,sFrom,0)::(joinK (ins.map inK)++(1,sDo,0)::(tkQ p++rest))))) :
 zcu s=(⟨2,n,[],x,ins,p,[],[]⟩,advN s (1+((scK x).length+(1+((joinK (ins.map inK)).length+(1+(tkQ p).length)))))):=by
 obtain ⟨e1,h1⟩:=zb3 a;have e2:=zfN hs h1;obtain ⟨e3,h3⟩:=zbC (.inl rfl) h1.app;have e4:=zo2 h0 hi h3 (by rw[zc5];decide);obtain ⟨e5,h5⟩:=zbC (.inl rfl) h3.app;have e6:=(zjw hp h5 st).1 hd;unfold zcu;rw[e1];simp only;rw[e2];simp only;rw[e3,e4];simp only;rw[e5,e6];simp only[zaD,zao,Nat.add_assoc]
theorem zes {n c:Str} {ms:List Str} (h0:ms≠[]) {s:Ps} {rest:List Tk} (hr:isK rest [44]=false) (a:At s ((1,n,0)::(3,c,0)::(1,za0,0)::(joinK (ms.map nameK)++rest))) :
 za6 s=(⟨3,n,[],zSc,[],zPl,c,ms⟩,advN s (1+(1+(1+(joinK (ms.map nameK)).length)))):=by
 obtain ⟨e1,h1⟩:=zb3 a;obtain ⟨e2,e3,h2⟩:=zqc h1;obtain ⟨e4,h4⟩:=zbC (.inl rfl) h2;have e5:=zgz h0 h4 hr;unfold za6;rw[e1];simp only;rw[e2,e3,e4,e5];simp only[zaD,zao,Nat.add_assoc];rfl
theorem zqE (r:List Tk):Sg qE ((4,[59],0)::r):=Sg.cons (by decide) r
theorem zpq {d:Df} (ok:OkD d) {s:Ps} {rest:List Tk} (a:At s (dfK d++rest)):defP s=(d,advN s (dfK d).length)∧At (advN s (dfK d).length) rest:=by
 refine ⟨?_,a.app⟩
 cases ok with
 | source n cs x hn h0 hc hs =>
  have h:At s ((1,zbd,0)::(1,n,0)::(4,[40],0)::(joinK (cs.map colK2)++(4,[41],0)::(scK x++(4,[59],0)::rest))):=by
   have e:dfK ⟨1,n,cs,x,[],zPl,[],[]⟩++rest=(1,zbd,0)::(1,n,0)::(4,[40],0)::(joinK (cs.map colK2)++(4,[41],0)::(scK x++(4,[59],0)::rest)):=by
    show (((1,zbd,0)::(1,n,0)::(4,[40],0)::(joinK (cs.map colK2)++(4,[41],0)::scK x))++[(4,[59],0)])++rest=_
    simp only[List.cons_append,List.append_assoc,List.nil_append]
   rw[e]at a;exact a
  obtain ⟨e1,h1⟩:=zdH (ws:=zay) (j:=0) (.inl rfl) h (by decide);have e2:=zfJ h0 (fun c hc'=>(hc c hc').2) hs h1;have h2:At (advN (advP s) (1+(1+((joinK (cs.map colK2)).length+(1+(scK x).length))))) ((4,[59],0)::rest):=by
   have:=At.app (a:=(1,n,0)::(4,[40],0)::(joinK (cs.map colK2)++(4,[41],0)::scK x)) (b:=(4,[59],0)::rest) (s:=advP s) (by simpa only[List.cons_append,List.append_assoc] using h1);have el:((1,n,0)::(4,[40],0)::(joinK (cs.map colK2)++(4,[41],0)::scK x):List Tk).length=1+(1+((joinK (cs.map colK2)).length+(1+(scK x).length))):=by
    simp only[List.length_cons,List.length_append];omega
   rw[el]at this;exact this
  obtain ⟨e3,h3⟩:=zbC (.inr rfl) h2;unfold defP;rw[e1];show ((zbH (advP s)).1,wantP [59] (zbH (advP s)).2)=_
  rw[e2];simp only;rw[e3,zaD,zaD,zao,zao];congr 2
  unfold dfK dfK0;rw[if_pos (show (Df.mk 1 n cs x [] zPl [] []).k=1 from rfl)];simp only[List.length_cons,List.length_append,List.length_nil];omega
 | asset n x ins p hn hs h0 hi hp hd =>
  have h:At s ((1,zbr,0)::(1,n,0)::(scK x++(1,sFrom,0)::(joinK (ins.map inK)++(1,sDo,0)::(tkQ p++(4,[59],0)::rest)))):=by
   have e:dfK ⟨2,n,[],x,ins,p,[],[]⟩++rest=(1,zbr,0)::(1,n,0)::(scK x++(1,sFrom,0)::(joinK (ins.map inK)++(1,sDo,0)::(tkQ p++(4,[59],0)::rest))):=by
    show (((1,zbr,0)::(1,n,0)::(scK x++(1,sFrom,0)::(joinK (ins.map inK)++(1,sDo,0)::tkQ p)))++[(4,[59],0)])++rest=_
    simp only[List.cons_append,List.append_assoc,List.nil_append]
   rw[e]at a;exact a
  obtain ⟨e1,h1⟩:=zdH (ws:=zay) (j:=1) (.inl rfl) h (by decide);have e2:=zg5 hs h0 hi hp hd (zqE rest) h1;have h2:At (advN (advP s) (1+((scK x).length+(1+((joinK (ins.map inK)).length+(1+(tkQ p).length)))))) ((4,[59],0)::rest):=by
   have:=At.app (a:=(1,n,0)::(scK x++(1,sFrom,0)::(joinK (ins.map inK)++(1,sDo,0)::tkQ p))) (b:=(4,[59],0)::rest) (s:=advP s) (by simpa only[List.cons_append,List.append_assoc] using h1);have el:((1,n,0)::(scK x++(1,sFrom,0)::(joinK (ins.map inK)++(1,sDo,0)::tkQ p)):List Tk).length=1+((scK x).length+(1+((joinK (ins.map inK)).length+(1+(tkQ p).length)))):=by
    simp only[List.length_cons,List.length_append];omega
   rw[el]at this;exact this
  obtain ⟨e3,h3⟩:=zbC (.inr rfl) h2;unfold defP;rw[e1];show ((zcu (advP s)).1,wantP [59] (zcu (advP s)).2)=_
  rw[e2];simp only;rw[e3,zaD,zaD,zao,zao];congr 2
  unfold dfK dfK0;rw[if_neg (show ¬ (2:Int)=1 from by decide),if_pos (show (Df.mk 2 n [] x ins p [] []).k=2 from rfl)];simp only[List.length_cons,List.length_append,List.length_nil];omega
 | schedule n c ms hn hc h0 hm =>
  have h:At s ((1,zaG,0)::(1,n,0)::(3,c,0)::(1,za0,0)::(joinK (ms.map nameK)++(4,[59],0)::rest)):=by
   have e:dfK ⟨3,n,[],zSc,[],zPl,c,ms⟩++rest=(1,zaG,0)::(1,n,0)::(3,c,0)::(1,za0,0)::(joinK (ms.map nameK)++(4,[59],0)::rest):=by
    show (((1,zaG,0)::(1,n,0)::(3,c,0)::(1,za0,0)::joinK (ms.map nameK))++[(4,[59],0)])++rest=_
    simp only[List.cons_append,List.append_assoc,List.nil_append]
   rw[e]at a;exact a
  obtain ⟨e1,h1⟩:=zdH (ws:=zay) (j:=2) (.inl rfl) h (by decide);have e2:=zes h0 (rest:=(4,[59],0)::rest) (by rw[zc5];decide) h1;have h2:At (advN (advP s) (1+(1+(1+(joinK (ms.map nameK)).length)))) ((4,[59],0)::rest):=by
   have:=At.app (a:=(1,n,0)::(3,c,0)::(1,za0,0)::joinK (ms.map nameK)) (b:=(4,[59],0)::rest) (s:=advP s) (by simpa only[List.cons_append,List.append_assoc] using h1);have el:((1,n,0)::(3,c,0)::(1,za0,0)::joinK (ms.map nameK):List Tk).length=1+(1+(1+(joinK (ms.map nameK)).length)):=by
    simp only[List.length_cons];omega
   rw[el]at this;exact this
  obtain ⟨e3,h3⟩:=zbC (.inr rfl) h2;unfold defP;rw[e1];show ((za6 (advP s)).1,wantP [59] (za6 (advP s)).2)=_
  rw[e2];simp only;rw[e3,zaD,zaD,zao,zao];congr 2
  unfold dfK dfK0;rw[if_neg (show ¬ (3:Int)=1 from by decide),if_neg (show ¬ (3:Int)=2 from by decide)];simp only[List.length_cons,List.length_append,List.length_nil];omega
theorem zpV (d:Df):dfK d≠[]:=by unfold dfK;simp
theorem zed:∀ (ds:List Df) (fuel:Nat) (acc:List Df) (s:Ps),(∀ d∈ds,OkD d)→At s (defsK ds)→s.T.length≤fuel+s.i→zba fuel acc s=(acc++ds,advN s (defsK ds).length)
 | [],fuel,acc,s,ok,a,hf=>by
  have hT:s.T.length≤s.i:=by
   have h2:=a.2;change (s.T.drop s.i).map tri=[]at h2
   have:(s.T.drop s.i).length=0:=by rw[← List.length_map (f:=tri),h2];rfl
   rw[List.length_drop]at this;omega
  have e:zba fuel acc s=(acc,s):=by
   cases fuel with
   | zero=>rfl
   | succ n=>unfold zba;rw[if_neg (by omega)]
  rw[e,List.append_nil];rfl
 | d::ds,fuel,acc,s,ok,a,hf=>by
  have a0:At s (dfK d++defsK ds):=a;obtain ⟨e1,h1⟩:=zpq (ok d (by simp)) a0;have hlt:s.i<s.T.length:=by
   apply Classical.byContradiction;intro hn;have h2:=a0.2;change (s.T.drop s.i).map tri=_ at h2
   rw[List.drop_of_length_le (by omega)]at h2;exact zpV d (List.append_eq_nil_iff.1 h2.symm).1
  have hpos:0<(dfK d).length:=by
   cases h:dfK d with
   | nil=>exact absurd h (zpV d)
   | cons x r=>simp
  obtain ⟨fu,rfl⟩:∃ fu,fuel=fu+1:=⟨fuel-1,by omega⟩;unfold zba;rw[if_pos ⟨a0.1,hlt⟩,e1];simp only;rw[zed ds fu (acc++[d]) _ (fun x hx=>ok x (by simp[hx])) h1 (by show s.T.length≤fu+(s.i+(dfK d).length);omega),zao,List.append_assoc];congr 2
  show (dfK d).length+(defsK ds).length=(dfK d++defsK ds).length
  rw[List.length_append]
end Go.Proofs.YtonkjhmkppeagaaGreatDoor.Pz
namespace Go.Proofs.YtonkjhmkppeagaaGreatDoor.Pz
open Go.Proofs.Tryz
open Go Go.RowKit Lx
theorem zmK:zan zbd:=.inl ⟨rfl,rfl,⟨115,[111,117,114,99,101],rfl,by decide⟩,by decide,by decide⟩
theorem zj5:zan zbr:=.inl ⟨rfl,rfl,⟨97,[115,115,101,116],rfl,by decide⟩,by decide,by decide⟩
theorem zi9:zan zaG:=.inl ⟨rfl,rfl,⟨115,[99,104,101,100,117,108,101],rfl,by decide⟩,by decide,by decide⟩
theorem zsm:zan sInt:=.inl ⟨rfl,rfl,⟨105,[110,116],rfl,by decide⟩,by decide,by decide⟩
theorem zq8:zan sText:=.inl ⟨rfl,rfl,⟨116,[101,120,116],rfl,by decide⟩,by decide,by decide⟩
theorem zmP:zan sFrom:=.inl ⟨rfl,rfl,⟨102,[114,111,109],rfl,by decide⟩,by decide,by decide⟩
theorem kw_do:zan sDo:=.inl ⟨rfl,rfl,⟨100,[111],rfl,by decide⟩,by decide,by decide⟩
theorem zoY:zan za0:=.inl ⟨rfl,rfl,⟨109,[97,107,101,115],rfl,by decide⟩,by decide,by decide⟩
theorem zmO:zan zlQ:=.inl ⟨rfl,rfl,⟨104,[111,117,114,108,121],rfl,by decide⟩,by decide,by decide⟩
theorem zoZ:zan zpJ:=.inl ⟨rfl,rfl,⟨100,[97,105,108,121],rfl,by decide⟩,by decide,by decide⟩
theorem zmI:zan zlO:=.inl ⟨rfl,rfl,⟨119,[101,101,107,108,121],rfl,by decide⟩,by decide,by decide⟩
theorem zkV:zan zjE:=.inl ⟨rfl,rfl,⟨109,[111,110,116,104,108,121],rfl,by decide⟩,by decide,by decide⟩
theorem zmJ:zan zlP:=.inl ⟨rfl,rfl,⟨115,[116,97,116,105,99],rfl,by decide⟩,by decide,by decide⟩
theorem zq9:zan sSame:=.inl ⟨rfl,rfl,⟨115,[97,109,101],rfl,by decide⟩,by decide,by decide⟩
theorem zra:zan sLast:=.inl ⟨rfl,rfl,⟨108,[97,115,116],rfl,by decide⟩,by decide,by decide⟩
theorem zoX:zan zpI:=.inl ⟨rfl,rfl,⟨115,[104,105,102,116],rfl,by decide⟩,by decide,by decide⟩
theorem zmH:zan zlN:=.inl ⟨rfl,rfl,⟨119,[105,116,104,105,110],rfl,by decide⟩,by decide,by decide⟩
theorem zsn:zan sAll:=.inl ⟨rfl,rfl,⟨97,[108,108],rfl,by decide⟩,by decide,by decide⟩
theorem zib {k:Int} (h:1≤k∧k≤5):zan (wAt zax k):=by
 obtain ⟨h1,h2⟩:=h;have:k=1∨k=2∨k=3∨k=4∨k=5:=by omega
 rcases this with rfl|rfl|rfl|rfl|rfl
 ·exact zmO
 ·exact zoZ
 ·exact zmI
 ·exact zkV
 ·exact zmJ
theorem zpO {k:Int} (h:1≤k∧k≤5):zan (wAt zaf k):=by
 obtain ⟨h1,h2⟩:=h;have:k=1∨k=2∨k=3∨k=4∨k=5:=by omega
 rcases this with rfl|rfl|rfl|rfl|rfl
 ·exact zq9
 ·exact zra
 ·exact zoX
 ·exact zmH
 ·exact zsn
theorem zrE {c:Str} (h:TokOk ⟨3,c,0,0⟩):WrA (Va.quotedL c) [(3,c,0)]:=fun r ts hr=>RdT.quo h hr
theorem wr_sc {s:Sc} (h:OkSc s):WrT (scT s) (scK s):=by
 unfold scT scK;rw[if_pos h.1];refine wr_sp (k:=[(1,wAt zax s.k,0)]) (zas (zib h.1)) ?_;refine (zdJ h.2.1.1 h.2.1.2).app (k:=[(2,[],s.f)]) (j:=[(4,[46,46],0),(2,[],s.l)]) ?_ (fun r=>zcO (by decide) (by decide));exact (zbv (x:=[46,46]) (by decide) (by decide) (by decide)).app (zdJ h.2.2.1 h.2.2.2)
theorem zrI {c:Str×Int} (h:zan c.1∧(c.2=1∨c.2=2)):WrT (colT c) (colK2 c):=by
 unfold colT colK2;refine wr_sp (k:=[(1,c.1,0)]) (zas h.1) ?_;split
 ·exact zas zq8
 ·exact zas zsm
theorem zmV {n:Int} (h:n<0):Lib.itoa n=45::Lib.itoa (-n):=by
 obtain ⟨u,rfl⟩:∃ u:Nat,n=-(u:Int):=⟨(-n).toNat,by omega⟩;have h0:0<u:=by omega
 rw[Int.neg_neg,Lib.itoa_nonneg];unfold Lib.itoa;rw[if_pos h];simp
theorem zpC {x:Inp} (h:OkIn x):WrT (inN x) (inNK x)∧(inNK x=[]→inN x=[]):=by
 obtain ⟨_,_,hk,h2,h3,hz⟩:=h;unfold inN inNK;by_cases k2:x.k=2
 ·rw[if_pos (.inl k2),if_pos k2];exact ⟨zdJ (h2 k2).1 (h2 k2).2,fun e=>by cases e⟩
 ·rw[if_neg k2];by_cases k3:x.k=3
  ·rw[if_pos (.inr k3),if_pos k3];by_cases hn:x.n<0
   ·rw[if_pos hn,zmV hn];refine ⟨?_,fun e=>by cases e⟩;exact (zbv (x:=[45]) (by decide) (by decide) (by decide)).app (zdJ (by omega) (by have:=(h3 k3).1;omega))
   ·rw[if_neg hn];exact ⟨zdJ (by omega) (h3 k3).2,fun e=>by cases e⟩
  ·rw[if_neg k3,if_neg (fun h=>by rcases h with h|h;exact k2 h;exact k3 h)];exact ⟨WrT.empty,fun _=>rfl⟩
theorem zdc {a:Str} {t:Tk}:([t]:List Tk)=[]→a=[]:=fun e=>by cases e
theorem wr_in {x:Inp} (h:OkIn x):WrT (inT x) (inK x):=by
 unfold inT;rw[if_pos h.2.2.1];have h1:=zdW [(x.a,[((1:Int),x.a,(0:Int))]),(wAt zaf x.k,[(1,wAt zaf x.k,0)]),(inN x,inNK x),(sAs,[(1,sAs,0)]),(x.s,[(1,x.s,0)])] (fun p hp=>by
  simp only[List.mem_cons,List.not_mem_nil,or_false]at hp;rcases hp with rfl|rfl|rfl|rfl|rfl
  ·exact ⟨zas h.1,zdc⟩
  ·exact ⟨zas (zpO h.2.2.1),zdc⟩
  ·exact zpC h
  ·exact ⟨zas kw_as,zdc⟩
  ·exact ⟨zas h.2.1,zdc⟩)
 have e:inK x=([(x.a,[((1:Int),x.a,(0:Int))]),(wAt zaf x.k,[(1,wAt zaf x.k,0)]),(inN x,inNK x),(sAs,[(1,sAs,0)]),(x.s,[(1,x.s,0)])].map (·.2)).flatten:=by
  unfold inK;simp
 rw[e];exact h1
theorem zn3 {ms:List Str} (h:∀ m∈ms,zan m):WrT (joinS [44,32] ms) (joinK (ms.map nameK)):=by
 have:=zdx (tx:=fun m:Str=>m) (tk:=nameK) ms (fun m hm=>zas (h m hm));simpa using this
theorem zid {α:Type} {tk:α→List Tk} (h:∀ x,tk x≠[]) {l:List α} (h0:l≠[]):joinK (l.map tk)≠[]:=by
 cases l with
 | nil=>exact absurd rfl h0
 | cons x l =>
  cases hx:tk x with
  | nil=>exact absurd hx (h x)
  | cons a r =>
   obtain ⟨r',e⟩:=zd1 (l:=tk x) (l.map tk) hx;rw[List.map_cons,hx,← hx,e];exact List.cons_ne_nil _ _
theorem zrH {d:Df} (ok:OkD d):WrT (dfT0 d) (dfK0 d):=by
 cases ok with
 | source n cs x hn h0 hc hs =>
  have hcols:WrT (40::(joinS [44,32] (cs.map colT)++[41])) ((4,[40],0)::(joinK (cs.map colK2)++[(4,[41],0)])):=by
   refine (zbv (x:=[40]) (by decide) (by decide) (by decide)).app (u:=joinS [44,32] (cs.map colT)++[41]) (j:=joinK (cs.map colK2)++[(4,[41],0)]) ?_;exact (zdx cs (fun c hc'=>zrI (hc c hc'))).app (zbv (x:=[41]) (by decide) (by decide) (by decide)).wt (fun r=>zcO (by decide) (by decide))
  have h1:=zdW [(zbd,[((1:Int),zbd,(0:Int))]),(n,[(1,n,0)]),(40::(joinS [44,32] (cs.map colT)++[41]),(4,[40],0)::(joinK (cs.map colK2)++[(4,[41],0)])),(scT x,scK x)] (fun p hp=>by
   simp only[List.mem_cons,List.not_mem_nil,or_false]at hp;rcases hp with rfl|rfl|rfl|rfl
   ·exact ⟨zas zmK,zdc⟩
   ·exact ⟨zas hn,zdc⟩
   ·exact ⟨hcols,fun e=>by cases e⟩
   ·exact ⟨wr_sc hs,fun e=>by cases e⟩)
  have e:dfK0 ⟨1,n,cs,x,[],zPl,[],[]⟩=([(zbd,[((1:Int),zbd,(0:Int))]),(n,[(1,n,0)]),(40::(joinS [44,32] (cs.map colT)++[41]),(4,[40],0)::(joinK (cs.map colK2)++[(4,[41],0)])),(scT x,scK x)].map (·.2)).flatten:=by
   show (1,zbd,0)::(1,n,0)::(4,[40],0)::(joinK (cs.map colK2)++(4,[41],0)::scK x)=_
   simp
  rw[e];exact h1
 | asset n x ins p hn hs h0 hi hp hd =>
  have h1:=zdW [(zbr,[((1:Int),zbr,(0:Int))]),(n,[(1,n,0)]),(scT x,scK x),(sFrom,[(1,sFrom,0)]),(joinS [44,32] (ins.map inT),joinK (ins.map inK)),(sDo,[(1,sDo,0)]),(textQ p,tkQ p)] (fun q hq=>by
   simp only[List.mem_cons,List.not_mem_nil,or_false]at hq;rcases hq with rfl|rfl|rfl|rfl|rfl|rfl|rfl
   ·exact ⟨zas zj5,zdc⟩
   ·exact ⟨zas hn,zdc⟩
   ·exact ⟨wr_sc hs,fun e=>by cases e⟩
   ·exact ⟨zas zmP,zdc⟩
   ·exact ⟨zdx ins (fun y hy=>wr_in (hi y hy)),fun e=>absurd e (zid (fun y=>by unfold inK;exact List.cons_ne_nil _ _) h0)⟩
   ·exact ⟨zas kw_do,zdc⟩
   ·exact ⟨zlq p hp,fun e=>absurd e (zrO p)⟩)
  have e:dfK0 ⟨2,n,[],x,ins,p,[],[]⟩=([(zbr,[((1:Int),zbr,(0:Int))]),(n,[(1,n,0)]),(scT x,scK x),(sFrom,[(1,sFrom,0)]),(joinS [44,32] (ins.map inT),joinK (ins.map inK)),(sDo,[(1,sDo,0)]),(textQ p,tkQ p)].map (·.2)).flatten:=by
   show (1,zbr,0)::(1,n,0)::(scK x++(1,sFrom,0)::(joinK (ins.map inK)++(1,sDo,0)::tkQ p))=_
   simp
  rw[e];exact h1
 | schedule n c ms hn hc h0 hm =>
  have h1:=zdW [(zaG,[((1:Int),zaG,(0:Int))]),(n,[(1,n,0)]),(Va.quotedL c,[(3,c,0)]),(za0,[(1,za0,0)]),(joinS [44,32] ms,joinK (ms.map nameK))] (fun q hq=>by
   simp only[List.mem_cons,List.not_mem_nil,or_false]at hq;rcases hq with rfl|rfl|rfl|rfl|rfl
   ·exact ⟨zas zi9,zdc⟩
   ·exact ⟨zas hn,zdc⟩
   ·exact ⟨(zrE hc).wt,zdc⟩
   ·exact ⟨zas zoY,zdc⟩
   ·exact ⟨zn3 hm,fun e=>absurd e (zid (fun y=>List.cons_ne_nil _ _) h0)⟩)
  have e:dfK0 ⟨3,n,[],zSc,[],zPl,c,ms⟩=([(zaG,[((1:Int),zaG,(0:Int))]),(n,[(1,n,0)]),(Va.quotedL c,[(3,c,0)]),(za0,[(1,za0,0)]),(joinS [44,32] ms,joinK (ms.map nameK))].map (·.2)).flatten:=by
   show (1,zaG,0)::(1,n,0)::(3,c,0)::(1,za0,0)::joinK (ms.map nameK)=_
   simp
  rw[e];exact h1
theorem wr_df {d:Df} (ok:OkD d):WrA (dfT d) (dfK d):=fun r ts hr=>by
 have h:=zrH ok ([59,10]++r) ((4,[59],0)::ts) (RdT.sign (x:=[59]) (by decide) (by decide) (by decide) (hr.ws (c:=10) (by decide))) (zcO (by decide) (by decide));unfold dfT dfK;rw[List.append_assoc,List.append_assoc];exact h
theorem zlY:∀ {ds:List Df},(∀ d∈ds,OkD d)→RdT (defsT ds) (defsK ds)
 | [],h=>RdT.nil
 | d::ds,h=>by
  show RdT (dfT d++defsT ds) (dfK d++defsK ds)
  exact wr_df (h d (by simp)) _ _ (zlY fun x hx=>h x (by simp[hx]))
theorem zfU (l:List UInt8):za9 l=allR [] (defsP (openP l)).2 (defsP (openP l)).1:=by
 unfold za9 allR;rw[show (defsP (openP l)).2.E=l.length from (zcp _ _ _).E]
theorem zgu {l:Str} {ds:List Df} (ok:∀ d∈ds,OkD d) (h:RdT l (defsK ds)) (hl:l.length≤16384):za9 l=(ds,l.length,0):=by
 obtain ⟨ha,hn⟩:=zfW h hl;have hb:defsP (openP l)=(ds,advN (openP l) (defsK ds).length):=by
  unfold defsP;rw[zed ds _ [] (openP l) ok ha (by omega),List.nil_append]
 rw[zfU,hb];exact zhD h hl rfl
theorem ze7 {ds:List Df} (ok:∀ d∈ds,OkD d) (hl:(defsT ds).length≤16384):za9 (defsT ds)=(ds,(defsT ds).length,0):=zgu ok (zlY ok) hl
end Go.Proofs.YtonkjhmkppeagaaGreatDoor.Pz
namespace Go.Proofs.YtonkjhmkppeagaaGreatDoor.Pz
open Go.Proofs.Tryz
open Go Go.RowKit Lx
theorem zls {ws:List Str} {k:Nat}:wAt ws ((1+k:Nat):Int)=ws.getD k []:=by
 unfold wAt;congr 1
 omega
theorem zfM {s:Ps} (a:AllOk s) (h:(zaS s).2.e=0):OkSc (zaS s).1∧(scT (zaS s).1).length+2*Wt (zaS s).2≤2*Wt s:=by
 have g1:=zb1 zax s;have g2:=g1.trans (zbi 2 (by decide) _);have g3:=g2.trans (zam [46,46] _);change (zak 2 (wantP [46,46] (zak 2 (oneP zax s).2).2)).2.e=0 at h
 have h3:=(zbi 2 (by decide) _).back h;have h2:=(zam [46,46] _).back h3;have h1:=(zbi 2 (by decide) _).back h2;obtain ⟨k,k1,k2,w1⟩:=zd0 h1;obtain ⟨n1,n2,w2⟩:=zgi (g1.all a) h2;have w3:=zbT h3;obtain ⟨m1,m2,w4⟩:=zgi (g3.all a) h;change _∧(scT (zaS s).1).length+2*Wt (zak 2 (wantP [46,46] (zak 2 (oneP zax s).2).2)).2≤_
 have e:(zaS s).1=⟨((1+k:Nat):Int),(zak 2 (oneP zax s).2).1.n,(zak 2 (wantP [46,46] (zak 2 (oneP zax s).2).2)).1.n⟩:=by
  unfold zaS;rw[k2]
 rw[e];have k5:k<5:=k1;have ok:OkSc ⟨((1+k:Nat):Int),(zak 2 (oneP zax s).2).1.n,(zak 2 (wantP [46,46] (zak 2 (oneP zax s).2).2)).1.n⟩:=⟨⟨by show (1:Int)≤((1+k:Nat):Int);omega,by show ((1+k:Nat):Int)≤5;omega⟩,⟨n1,n2⟩,⟨m1,m2⟩⟩;refine ⟨ok,?_⟩;unfold scT;rw[if_pos ok.1];simp only[zls,List.length_append,List.length_cons,List.length_nil]at w3 ⊢;omega
theorem znF {s:Ps} (a:AllOk s) (h:(listP zbj [] s).2.e=0):(listP zbj [] s).1≠[]∧(∀ c∈(listP zbj [] s).1,zan c.1∧(c.2=1∨c.2=2))∧(joinS [44,32] ((listP zbj [] s).1.map colT)).length+2+2*Wt (listP zbj [] s).2≤2*Wt s:=by
 obtain ⟨l,l0,l1,l2,l3⟩:=zc2 zcj (fun a x=>a++[x]) colT (fun c=>zan c.1∧(c.2=1∨c.2=2)) (fun acc s a h=>by
  have h1:(nameP s).2.e=0:=(zb1 [sInt,sText] _).back h;obtain ⟨n1,w1⟩:=zck a h1;obtain ⟨k,k1,k2,w2⟩:=zd0 (ws:=[sInt,sText]) (s:=(nameP s).2) h;refine ⟨((nameP s).1,((1+k:Nat):Int)),by unfold zbj;rw[k2],⟨n1,?_⟩,?_⟩
  ·have:k<2:=k1;show ((1+k:Nat):Int)=1∨((1+k:Nat):Int)=2
   omega
  ·show (colT ((nameP s).1,((1+k:Nat):Int))).length+2+2*Wt (oneP [sInt,sText] (nameP s).2).2≤2*Wt s
   have hk:(if (2:Int)≤((1+k:Nat):Int) then sText else sInt).length=([sInt,sText].getD k []).length:=by
    match k,k1 with
    | 0,_=>rfl
    | 1,_=>rfl
    | k+2,h=>exact absurd h (by show ¬ k+2<2;omega)
   unfold colT;simp only[List.length_append,List.length_cons,hk];omega) [] s a h
 rw[l1,zbL];exact ⟨l0,l2,l3⟩
theorem zq6 {n:Int} (h:0≤n):(Lib.itoa (-n)).length≤(Lib.itoa n).length+1:=by
 by_cases h0:n=0
 ·subst h0;exact Nat.le_succ _
 ·rw[zmV (show -n<0 by omega),Int.neg_neg];exact Nat.le_refl _
theorem zoU {s:Ps} (a:AllOk s) (h:(zad s).2.e=0):(1≤(zad s).1.1∧(zad s).1.1≤5)∧((zad s).1.1=2→0≤(zad s).1.2∧(zad s).1.2≤9223372036854775807)∧((zad s).1.1=3→-9223372036854775807≤(zad s).1.2∧(zad s).1.2≤9223372036854775807)∧((zad s).1.1≠2→(zad s).1.1≠3→(zad s).1.2=0)∧
 (wAt zaf (zad s).1.1).length+1+(if (zad s).1.1=2∨(zad s).1.1=3 then (Lib.itoa (zad s).1.2).length+1 else 0)+Wt (zad s).2≤Wt s:=by
 change (mapK (oneP zaf s).1 (oneP zaf s).2).2.e=0 at h
 have g1:=zb1 zaf s;have h1:=(zii _ _).back h;obtain ⟨k,k1,k2,w1⟩:=zd0 h1;have k5:k<5:=k1;have e:zad s=((((1+k:Nat):Int),(mapK (1+k) (oneP zaf s).2).1),(mapK (1+k) (oneP zaf s).2).2):=by
  unfold zad;rw[k2]
 rw[k2]at h;rw[e];simp only[zls];have a1:=g1.all a;generalize (oneP zaf s).2=z at h w1 a1 ⊢;refine ⟨⟨by omega,by omega⟩,?_⟩;unfold mapK at h ⊢;by_cases q2:k=1
 ·rw[if_pos (by omega)]at h ⊢;obtain ⟨n1,n2,w2⟩:=zgi a1 h;rw[if_pos (show (((1+k:Nat):Int)=2∨((1+k:Nat):Int)=3) from .inl (by omega))];exact ⟨fun _=>⟨n1,n2⟩,fun e=>absurd e (by omega),fun e=>absurd (by omega) e,by simp only;omega⟩
 ·rw[if_neg (by omega)]at h ⊢;by_cases q3:k=2
  ·rw[if_pos (by omega)]at h ⊢;rw[if_pos (show (((1+k:Nat):Int)=2∨((1+k:Nat):Int)=3) from .inr (by omega))];by_cases hx:isP z [45]=true
   ·rw[if_pos hx]at h ⊢;obtain ⟨n1,n2,w2⟩:=zgi ((zaA hx).all a1) h;have w3:=wt_is hx;have l:=zq6 n1;simp only[List.length_cons,List.length_nil]at w3;exact ⟨fun e=>absurd e (by omega),fun _=>⟨by simp only;omega,by simp only;omega⟩,fun _ e=>absurd (by omega) e,by simp only;omega⟩
   ·rw[if_neg hx]at h ⊢;obtain ⟨n1,n2,w2⟩:=zgi a1 h;exact ⟨fun e=>absurd e (by omega),fun _=>⟨by simp only;omega,by simp only;omega⟩,fun _ e=>absurd (by omega) e,by simp only;omega⟩
  ·rw[if_neg (by omega)]at h ⊢;rw[if_neg (show ¬ (((1+k:Nat):Int)=2∨((1+k:Nat):Int)=3) by omega)];exact ⟨fun e=>absurd e (by omega),fun e=>absurd e (by omega),fun _ _=>rfl,by simp only;omega⟩
theorem zo1 {s:Ps} (a:AllOk s) (h:(listP zbR [] s).2.e=0):(listP zbR [] s).1≠[]∧(∀ x∈(listP zbR [] s).1,OkIn x)∧(joinS [44,32] ((listP zbR [] s).1.map inT)).length+2+2*Wt (listP zbR [] s).2≤2*Wt s:=by
 obtain ⟨l,l0,l1,l2,l3⟩:=zc2 zcA (fun a x=>a++[x]) inT OkIn (fun acc s a h=>by
  change (nameP (wantP sAs (zad (nameP s).2).2)).2.e=0 at h
  have g1:=zaM s;have g2:=g1.trans (zdR _);have g3:=g2.trans (zam sAs _);have h3:=(zaM _).back h;have h2:=(zam sAs _).back h3;have h1:=(zdR _).back h2;obtain ⟨n1,w1⟩:=zck a h1;obtain ⟨m1,m2,m3,m4,w2⟩:=zoU (g1.all a) h2;have w3:=zbT h3;obtain ⟨n4,w4⟩:=zck (g3.all a) h;refine ⟨⟨(nameP s).1,(zad (nameP s).2).1.1,(zad (nameP s).2).1.2,(nameP (wantP sAs (zad (nameP s).2).2)).1⟩,rfl,⟨n1,n4,m1,m2,m3,m4⟩,?_⟩;change (inT ⟨(nameP s).1,(zad (nameP s).2).1.1,(zad (nameP s).2).1.2,(nameP (wantP sAs (zad (nameP s).2).2)).1⟩).length+2+2*Wt (nameP (wantP sAs (zad (nameP s).2).2)).2≤2*Wt s
  generalize (zad (nameP s).2).1.1=K at *
  generalize (zad (nameP s).2).1.2=N at *
  generalize (nameP (wantP sAs (zad (nameP s).2).2)).1=S at *
  generalize (nameP s).1=A at *
  have hw:=zbK [A,wAt zaf K,inN ⟨A,K,N,S⟩,sAs,S];have hn:(inN ⟨A,K,N,S⟩).length≤(if K=2∨K=3 then (Lib.itoa N).length+1 else 0):=by
   unfold inN;by_cases hk:K=2∨K=3
   ·rw[if_pos hk,if_pos hk];exact Nat.le_succ _
   ·rw[if_neg hk,if_neg hk];exact Nat.le_refl _
  simp only[List.map_cons,List.map_nil,List.sum_cons,List.sum_nil,show sAs.length=2 from rfl]at hw w3;unfold inT;rw[if_pos m1];simp only;omega) [] s a h
 rw[l1,zbL];exact ⟨l0,l2,l3⟩
theorem ziL {s:Ps} (a:AllOk s) (h:(zbH s).2.e=0):OkD (zbH s).1∧(dfT0 (zbH s).1).length+2*Wt (zbH s).2≤14+2*Wt s:=by
 change (zaS (wantP [41] (listP zbj [] (wantP [40] (nameP s).2)).2)).2.e=0 at h
 have g1:=zaM s;have g2:=g1.trans (zam [40] _);have g3:=g2.trans (zbt zcj [] _);have g4:=g3.trans (zam [41] _);have h4:=(zc7 _).back h;have h3:=(zam [41] _).back h4;have h2:=(zbt zcj [] _).back h3;have h1:=(zam [40] _).back h2;obtain ⟨n1,w1⟩:=zck a h1;have w2:=zbT h2;obtain ⟨c0,c1,c2⟩:=znF (g2.all a) h3;have w4:=zbT h4;obtain ⟨o5,w5⟩:=zfM (g4.all a) h;refine ⟨.source _ _ _ n1 c0 c1 o5,?_⟩;change (zav [zbd,(nameP s).1,40::(joinS [44,32] ((listP zbj [] (wantP [40] (nameP s).2)).1.map colT)++[41]),scT (zaS (wantP [41] (listP zbj [] (wantP [40] (nameP s).2)).2)).1]).length+2*Wt (zaS (wantP [41] (listP zbj [] (wantP [40] (nameP s).2)).2)).2≤_
 have hw:=zbK [zbd,(nameP s).1,40::(joinS [44,32] ((listP zbj [] (wantP [40] (nameP s).2)).1.map colT)++[41]),scT (zaS (wantP [41] (listP zbj [] (wantP [40] (nameP s).2)).2)).1];simp only[List.map_cons,List.map_nil,List.sum_cons,List.sum_nil,List.length_cons,List.length_append,List.length_nil,show zbd.length=6 from rfl]at hw w2 w4;omega
theorem zlj {s:Ps} (a:AllOk s) (h:(zcu s).2.e=0):OkD (zcu s).1∧(dfT0 (zcu s).1).length+2*Wt (zcu s).2≤14+2*Wt s:=by
 change (topQ (wantP sDo (listP zbR [] (wantP sFrom (zaS (nameP s).2).2)).2)).2.e=0 at h
 have g1:=zaM s;have g2:=g1.trans (zc7 _);have g3:=g2.trans (zam sFrom _);have g4:=g3.trans (zbt zcA [] _);have g5:=g4.trans (zam sDo _);have h5:=(zeE _).back h;have h4:=(zam sDo _).back h5;have h3:=(zbt zcA [] _).back h4;have h2:=(zam sFrom _).back h3;have h1:=(zc7 _).back h2;obtain ⟨n1,w1⟩:=zck a h1;obtain ⟨o2,w2⟩:=zfM (g1.all a) h2;have w3:=zbT h3;obtain ⟨i0,i1,i2⟩:=zo1 (g3.all a) h4;have w5:=zbT h5;obtain ⟨q1,q2,q3⟩:=zlt (g5.all a) h;refine ⟨.asset _ _ _ _ n1 o2 i0 i1 q1 q2,?_⟩
 change (zav [zbr,(nameP s).1,scT (zaS (nameP s).2).1,sFrom,joinS [44,32] ((listP zbR [] (wantP sFrom (zaS (nameP s).2).2)).1.map inT),sDo,textQ (topQ (wantP sDo (listP zbR [] (wantP sFrom (zaS (nameP s).2).2)).2)).1]).length+2*Wt (topQ (wantP sDo (listP zbR [] (wantP sFrom (zaS (nameP s).2).2)).2)).2≤_
 have hw:=zbK [zbr,(nameP s).1,scT (zaS (nameP s).2).1,sFrom,joinS [44,32] ((listP zbR [] (wantP sFrom (zaS (nameP s).2).2)).1.map inT),sDo,textQ (topQ (wantP sDo (listP zbR [] (wantP sFrom (zaS (nameP s).2).2)).2)).1];simp only[List.map_cons,List.map_nil,List.sum_cons,List.sum_nil,show zbr.length=5 from rfl,show sFrom.length=4 from rfl,show sDo.length=2 from rfl]at hw w3 w5;omega
theorem zhd {s:Ps} (a:AllOk s) (h:(za6 s).2.e=0):OkD (za6 s).1∧(dfT0 (za6 s).1).length+2*Wt (za6 s).2≤14+2*Wt s:=by
 change (zaK (wantP za0 (zak 3 (nameP s).2).2)).2.e=0 at h
 have g1:=zaM s;have g2:=g1.trans (zbi 3 (by decide) _);have g3:=g2.trans (zam za0 _);have h3:=(zeY _).back h;have h2:=(zam za0 _).back h3;have h1:=(zbi 3 (by decide) _).back h2;obtain ⟨n1,w1⟩:=zck a h1;obtain ⟨o2,w2⟩:=zp1 (g1.all a) h2;have w3:=zbT h3;obtain ⟨m0,m1,m2⟩:=zgy (g3.all a) h;refine ⟨.schedule _ _ _ n1 o2 m0 m1,?_⟩;change (zav [zaG,(nameP s).1,Va.quotedL (zak 3 (nameP s).2).1.t,za0,joinS [44,32] (zaK (wantP za0 (zak 3 (nameP s).2).2)).1]).length+2*Wt (zaK (wantP za0 (zak 3 (nameP s).2).2)).2≤_
 have hw:=zbK [zaG,(nameP s).1,Va.quotedL (zak 3 (nameP s).2).1.t,za0,joinS [44,32] (zaK (wantP za0 (zak 3 (nameP s).2).2)).1];simp only[List.map_cons,List.map_nil,List.sum_cons,List.sum_nil,show zaG.length=8 from rfl,show za0.length=5 from rfl]at hw w3;omega
theorem zpp {s:Ps} (a:AllOk s) (h:(defP s).2.e=0):OkD (defP s).1∧(dfT (defP s).1).length+2*Wt (defP s).2≤2*Wt s:=by
 change (wantP [59] (defK (oneP zay s).1 (oneP zay s).2).2).e=0 at h
 show OkD (defK (oneP zay s).1 (oneP zay s).2).1∧(dfT (defK (oneP zay s).1 (oneP zay s).2).1).length+2*Wt (wantP [59] (defK (oneP zay s).1 (oneP zay s).2).2)≤_
 have g1:=zb1 zay s;have h2:=(zam [59] _).back h;have h1:=(zf7 _ _).back h2;obtain ⟨k,k1,k2,w1⟩:=zd0 h1;have w3:=zbT h;have a1:=g1.all a;rw[k2]at h h2 w3 ⊢;generalize (oneP zay s).2=z at *
 simp only[List.length_cons,List.length_nil]at w3;unfold dfT;rw[List.length_append];match k,k1 with
 | 0,_ =>
  change (zbH z).2.e=0 at h2
  obtain ⟨o,w⟩:=ziL a1 h2;have e:defK (1+0) z=zbH z:=rfl;rw[e]at w3 ⊢;have hl:(zay.getD 0 []).length=6:=rfl;rw[hl]at w1;refine ⟨o,?_⟩;simp only[List.length_cons,List.length_nil];omega
 | 1,_ =>
  change (zcu z).2.e=0 at h2
  obtain ⟨o,w⟩:=zlj a1 h2;have e:defK (1+1) z=zcu z:=rfl;rw[e]at w3 ⊢;have hl:(zay.getD 1 []).length=5:=rfl;rw[hl]at w1;refine ⟨o,?_⟩;simp only[List.length_cons,List.length_nil];omega
 | 2,_ =>
  change (za6 z).2.e=0 at h2
  obtain ⟨o,w⟩:=zhd a1 h2;have e:defK (1+2) z=za6 z:=rfl;rw[e]at w3 ⊢;have hl:(zay.getD 2 []).length=8:=rfl;rw[hl]at w1;refine ⟨o,?_⟩;simp only[List.length_cons,List.length_nil];omega
 | k+3,h=>exact absurd h (by show ¬ k+3<3;omega)
theorem ziq:∀ (fuel:Nat) (acc:List Df) (s:Ps),AllOk s→(zba fuel acc s).2.e=0→∃ ds,(zba fuel acc s).1=acc++ds∧(∀ d∈ds,OkD d)∧(defsT ds).length+2*Wt (zba fuel acc s).2≤2*Wt s
 | 0,acc,s,a,h=>⟨[],by rw[List.append_nil];rfl,fun d hd=>by simp at hd,by show 0+2*Wt s≤_;omega⟩
 | fuel+1,acc,s,a,h=>by
  unfold zba at h ⊢;by_cases hc:s.e=0∧s.i<s.T.length
  ·rw[if_pos hc]at h ⊢;have h1:=(zcp fuel _ _).back h;obtain ⟨o,w⟩:=zpp a h1;obtain ⟨ds,e1,e2,e3⟩:=ziq fuel _ _ ((zhs s).all a) h;refine ⟨(defP s).1::ds,by rw[e1,List.append_assoc];rfl,fun d hd=>by rcases List.mem_cons.1 hd with rfl|hd;exact o;exact e2 d hd,?_⟩;show (dfT (defP s).1++defsT ds).length+_≤_
   rw[List.length_append];omega
  ·rw[if_neg hc]at h ⊢;exact ⟨[],by rw[List.append_nil],fun d hd=>by simp at hd,by show 0+2*Wt s≤_;omega⟩
theorem zkL {l:Str} (h:(za9 l).2.2=0):(∀ d∈(za9 l).1,OkD d)∧(defsT (za9 l).1).length≤4*l.length∧(za9 l).2.1=l.length:=by
 rw[zfU]at h ⊢;unfold allR at h ⊢;by_cases he:(allP (defsP (openP l)).2).e=0
 ·rw[if_pos he];have hs:(defsP (openP l)).2.e=0:=by
   apply Classical.byContradiction;intro hn;rw[zdE hn]at he;exact hn he
  obtain ⟨ds,e1,e2,e3⟩:=ziq _ [] (openP l) (ziF l).2.2 hs;have h5:=zll l;have e1':(defsP (openP l)).1=ds:=e1;rw[e1'];refine ⟨e2,by omega,(zcp _ _ _).E⟩
 ·rw[if_neg he]at h;exact absurd h he
end Go.Proofs.YtonkjhmkppeagaaGreatDoor.Pz
namespace Go.Proofs.YtonkjhmkppeagaaGreatDoor.Pz
open Go.Proofs.Tryz
open Go Go.RowKit Lx
def Rl (n:Nat) (s s':Ps):Prop:=s'.e=s.e∧∀ j,j<n→(s'.T[s'.i+j]?).map tri=(s.T[s.i+j]?).map tri
structure Loc {α:Type} (f:Ps→α×Ps):Prop where
 go:∀ s,Goes s (f s).2
 eq:∀ n s s',Rl n s s'→(f s).2.i<s.i+n→(f s').1=(f s).1∧(f s').2.e=(f s).2.e∧(f s').2.i+s.i=(f s).2.i+s'.i
structure LocD (D:Dp):Prop where
 dor:Loc D.dor
 dnot:Loc D.dnot
 dminus:Loc D.dminus
 dparen:Loc D.dparen
section
variable {D:Dp} (h:LocD D)
include h
end
end Go.Proofs.YtonkjhmkppeagaaGreatDoor.Pz
