/- Definitions: their text, their tokens, what is well formed; their own tokens are read back as them. No program in sight. Definitions: their text is cut into their tokens; what is read is well formed, and has a text that tells it again. No program in sight. Definitions: what is read is well formed, its text not much longer than what it was read from. No program in sight. The plain law of the reader: it looks at nothing but the tokens that it takes, and the one behind them; where they begin is all one. No program in sight. -/
import Derived.Test.YtonkjhmkppeagaaGreatDoorWQy
set_option linter.unusedVariables false
namespace Go.Proofs.YtonkjhmkppeagaaGreatDoor.Pz
open Go.Proofs.Tryz
open Go Go.RowKit Lx
def wAt (ws:List Str) (k:Int):Str:=ws.getD (k.toNat-1) []
def inN (x:Inp):Str:=if x.k=2∨x.k=3 then Lib.itoa x.n else []
def colK2 (c:Str×Int):List Tk:=[(1,c.1,0),(1,if 2≤c.2 then sText else sInt,0)]
def scK (s:Sc):List Tk:=[(1,wAt zaw s.k,0),(2,[],s.f),(4,[46,46],0),(2,[],s.l)]
def inNK (x:Inp):List Tk:=if x.k=2 then [(2,[],x.n)] else if x.k=3 then (if x.n<0 then [(4,[45],0),(2,[],-x.n)] else [(2,[],x.n)]) else []
def inK (x:Inp):List Tk:=(1,x.a,0)::(1,wAt zaf x.k,0)::(inNK x++[(1,sAs,0),(1,x.s,0)])
def nameK (n:Str):List Tk:=[(1,n,0)]
def dfK0 (d:Df):List Tk :=
 if d.k=1 then (1,zba,0)::(1,d.nm,0)::(4,[40],0)::(joinK (d.sch.map colK2)++(4,[41],0)::scK d.sc)
 else if d.k=2 then (1,zbl,0)::(1,d.nm,0)::(scK d.sc++(1,sFrom,0)::(joinK (d.ins.map inK)++(1,sDo,0)::tkQ d.plan))
 else (1,zaG,0)::(1,d.nm,0)::(3,d.cron,0)::(1,za1,0)::joinK (d.mks.map nameK)
def dfK (d:Df):List Tk:=dfK0 d++[(4,[59],0)]
def defsK (l:List Df):List Tk:=(l.map dfK).flatten
def OkSc (s:Sc):Prop:=(1≤s.k∧s.k≤5)∧(0≤s.f∧s.f≤9223372036854775807)∧(0≤s.l∧s.l≤9223372036854775807)
def OkIn (x:Inp):Prop:=zao x.a∧zao x.s∧(1≤x.k∧x.k≤5)∧(x.k=2→0≤x.n∧x.n≤9223372036854775807)∧(x.k=3→-9223372036854775807≤x.n∧x.n≤9223372036854775807)∧(x.k≠2→x.k≠3→x.n=0)
inductive OkD:Df→Prop
 | source (n:Str) (cs:List (Str×Int)) (s:Sc) (hn:zao n) (h0:cs≠[]) (hc:∀ c∈cs,zao c.1∧(c.2=1∨c.2=2)) (hs:OkSc s):OkD ⟨1,n,cs,s,[],zPl,[],[]⟩
 | asset (n:Str) (s:Sc) (ins:List Inp) (p:Pl) (hn:zao n) (hs:OkSc s) (h0:ins≠[]) (hi:∀ x∈ins,OkIn x) (hp:OkQ p) (hd:deepQ p≤31):OkD ⟨2,n,[],s,ins,p,[],[]⟩
 | schedule (n c:Str) (ms:List Str) (hn:zao n) (hc:TokOk ⟨3,c,0,0⟩) (h0:ms≠[]) (hm:∀ m∈ms,zao m):OkD ⟨3,n,[],zSc,[],zPl,c,ms⟩
theorem zlb {k:Int} (h:1≤k∧k≤5):∃ j,zeA (wAt zaw k) zaw=some j∧((1+j:Nat):Int)=k:=by
 obtain ⟨h1,h2⟩:=h;have:k=1∨k=2∨k=3∨k=4∨k=5:=by omega
 rcases this with rfl|rfl|rfl|rfl|rfl
 ·exact ⟨0,by decide,rfl⟩
 ·exact ⟨1,by decide,rfl⟩
 ·exact ⟨2,by decide,rfl⟩
 ·exact ⟨3,by decide,rfl⟩
 ·exact ⟨4,by decide,rfl⟩
theorem zq9 {k:Int} (h:1≤k∧k≤5):∃ j,zeA (wAt zaf k) zaf=some j∧((1+j:Nat):Int)=k:=by
 obtain ⟨h1,h2⟩:=h;have:k=1∨k=2∨k=3∨k=4∨k=5:=by omega
 rcases this with rfl|rfl|rfl|rfl|rfl
 ·exact ⟨0,by decide,rfl⟩
 ·exact ⟨1,by decide,rfl⟩
 ·exact ⟨2,by decide,rfl⟩
 ·exact ⟨3,by decide,rfl⟩
 ·exact ⟨4,by decide,rfl⟩
theorem zf3 {s:Ps} {x:Sc} {rest:List Tk} (hx:OkSc x) (a:At s (scK x++rest)):zaS s=(x,advN s (scK x).length):=by
 obtain ⟨j,j1,j2⟩:=zlb hx.1;obtain ⟨e1,h1⟩:=zdM (ws:=zaw) (.inl rfl) (rest:=(2,[],x.f)::(4,[46,46],0)::(2,[],x.l)::rest) a j1;obtain ⟨e2,e3,h2⟩:=zgT h1;obtain ⟨e4,h3⟩:=zbx (.inr rfl) h2;obtain ⟨e5,e6,h4⟩:=zgT h3;unfold zaS;rw[e1];simp only;rw[e2,e3,e4,e5,e6,j2];rfl
theorem zqu {c:Str×Int} {a:List (Str×Int)} {s:Ps} {r:List Tk} (hc:c.2=1∨c.2=2) (h:At s (colK2 c++r)):zbe a s=(a++[c],advN s (colK2 c).length):=by
 obtain ⟨e1,h1⟩:=zb8 (rest:=(1,if 2≤c.2 then sText else sInt,0)::r) h;obtain ⟨n,t⟩:=c;unfold zbe;rw[e1];simp only at hc h1 ⊢;rcases hc with rfl|rfl
 ·obtain ⟨e2,h2⟩:=zdM (ws:=[sInt,sText]) (j:=0) (.inl rfl) h1 (by rw[if_neg (by decide)];decide);rw[e2];rfl
 ·obtain ⟨e2,h2⟩:=zdM (ws:=[sInt,sText]) (j:=1) (.inl rfl) h1 (by rw[if_pos (by decide)];decide);rw[e2];rfl
theorem zoA {s:Ps} {cs:List (Str×Int)} {rest:List Tk} (h0:cs≠[]) (hc:∀ c∈cs,c.2=1∨c.2=2) (a:At s (joinK (cs.map colK2)++rest)) (hn:isK rest [44]=false):listP zbe [] s=(cs,advN s (joinK (cs.map colK2)).length):=by
 rw[zc3 (f:=zbe) (tk:=colK2) (put:=fun a n=>a++[n]) (stop:=ze7) (item:=fun c=>c.2=1∨c.2=2) (fun x a s r hx h _=>zqu hx h) (fun _=>trivial) trivial hn h0 [] hc a,zbJ]
theorem znt {x:Inp} {s:Ps} {j:Nat} (hj:((1+j:Nat):Int)=x.k) (hx:OkIn x) {r:List Tk} (h:At s (inNK x++(1,sAs,0)::r)):mapK (1+j) s=(x.n,advN s (inNK x).length):=by
 obtain ⟨_,_,hk,h2,h3,hz⟩:=hx;unfold mapK;unfold inNK at h ⊢;by_cases k2:x.k=2
 ·rw[if_pos k2]at h ⊢;rw[if_pos (by omega)];obtain ⟨e1,e2,_⟩:=zgT (rest:=(1,sAs,0)::r) h;rw[e1,e2];rfl
 ·rw[if_neg k2]at h ⊢;rw[if_neg (by omega)];by_cases k3:x.k=3
  ·rw[if_pos k3]at h ⊢;rw[if_pos (by omega)];by_cases hn:x.n<0
   ·rw[if_pos hn]at h ⊢;have h':At s ((4,[45],0)::(2,[],-x.n)::(1,sAs,0)::r):=h;rw[if_pos (by rw[is_at (.inr rfl) h'];decide)];obtain ⟨e1,e2,_⟩:=zgT h'.peek.2.1;rw[e1,e2];refine Prod.ext ?_ rfl;show -(-x.n)=x.n
    omega
   ·rw[if_neg hn]at h ⊢;have h':At s ((2,[],x.n)::(1,sAs,0)::r):=h;have hk2:(peekP s).k=2:=congrArg (·.1) h'.peek.1;rw[if_neg (by
     unfold isP;rw[hk2,yN (fun h=>by rcases h.1 with h|h<;>exact absurd h (by decide))];decide)]
    obtain ⟨e1,e2,_⟩:=zgT h';rw[e1,e2];rfl
  ·rw[if_neg k3]at h ⊢;rw[if_neg (by omega),hz k2 k3];rfl
theorem zsc {x:Inp} {a:List Inp} {s:Ps} {r:List Tk} (hx:OkIn x) (h:At s (inK x++r)):zbQ a s=(a++[x],advN s (inK x).length):=by
 obtain ⟨j,j1,j2⟩:=zq9 hx.2.2.1;have h0:At s ((1,x.a,0)::(1,wAt zaf x.k,0)::(inNK x++(1,sAs,0)::(1,x.s,0)::r)):=by
  have:inK x++r=(1,x.a,0)::(1,wAt zaf x.k,0)::(inNK x++(1,sAs,0)::(1,x.s,0)::r):=by
   unfold inK;rw[List.cons_append,List.cons_append,yM];rfl
  rw[this]at h;exact h
 obtain ⟨e1,h1⟩:=zb8 h0;obtain ⟨e2,h2⟩:=zdM (ws:=zaf) (.inl rfl) h1 j1;have e3:=znt j2 hx h2;obtain ⟨e4,h4⟩:=zbx (.inl rfl) h2.app;obtain ⟨e5,h5⟩:=zb8 h4;have em:zab (advP s)=((x.k,x.n),advN (advP (advP s)) (inNK x).length):=by
  unfold zab;rw[e2];simp only;rw[e3,j2]
 unfold zbQ;rw[e1];simp only;rw[em];simp only;rw[e4,e5];refine Prod.ext rfl ?_;show advP (advP (advN (advP (advP s)) (inNK x).length))=advN s (inK x).length
 rw[zaB,zaB,zaB,zaB,zap,zap,zap,zap];congr 1
 unfold inK;simp only[yB,yA,List.length_nil];omega
theorem zp0 {s:Ps} {ins:List Inp} {rest:List Tk} (h0:ins≠[]) (hi:∀ x∈ins,OkIn x) (a:At s (joinK (ins.map inK)++rest)) (hn:isK rest [44]=false):listP zbQ [] s=(ins,advN s (joinK (ins.map inK)).length):=by
 rw[zc3 (f:=zbQ) (tk:=inK) (put:=fun a n=>a++[n]) (stop:=ze7) (item:=OkIn) (fun x a s r hx h _=>zsc hx h) (fun _=>trivial) trivial hn h0 [] hi a,zbJ]
theorem zf0 {n:Str} {cs:List (Str×Int)} {x:Sc} (h0:cs≠[]) (hc:∀ c∈cs,c.2=1∨c.2=2) (hs:OkSc x) {s:Ps} {rest:List Tk} (a:At s ((1,n,0)::(4,[40],0)::(joinK (cs.map colK2)++(4,[41],0)::(scK x++rest)))) :
 zbz s=(⟨1,n,cs,x,[],zPl,[],[]⟩,advN s (1+(1+((joinK (cs.map colK2)).length+(1+(scK x).length))))):=by
 obtain ⟨e1,h1⟩:=zb8 a;obtain ⟨e2,h2⟩:=zbx (.inr rfl) h1;have e3:=zoA h0 hc h2 (by rw[zc6];decide);obtain ⟨e4,h4⟩:=zbx (.inr rfl) h2.app;have e5:=zf3 hs h4;unfold zbz;rw[e1];simp only;rw[e2,e3];simp only;rw[e4,e5];simp only[zaB,zap,Nat.add_assoc]
theorem zhr {n:Str} {x:Sc} {ins:List Inp} {p:Pl} (hs:OkSc x) (h0:ins≠[]) (hi:∀ x∈ins,OkIn x) (hp:OkQ p) (hd:deepQ p≤31) {s:Ps} {rest:List Tk} (st:Sg qE rest) (a:At s ((1,n,0)::(scK x++(1,sFrom,0)::(joinK (ins.map inK)++(1,sDo,0)::(tkQ p++rest))))) :
 zcl s=(⟨2,n,[],x,ins,p,[],[]⟩,advN s (1+((scK x).length+(1+((joinK (ins.map inK)).length+(1+(tkQ p).length)))))):=by
 obtain ⟨e1,h1⟩:=zb8 a;have e2:=zf3 hs h1;obtain ⟨e3,h3⟩:=zbx (.inl rfl) h1.app;have e4:=zp0 h0 hi h3 (by rw[zc6];decide);obtain ⟨e5,h5⟩:=zbx (.inl rfl) h3.app;have e6:=(zkk hp h5 st).1 hd;unfold zcl;rw[e1];simp only;rw[e2];simp only;rw[e3,e4];simp only;rw[e5,e6];simp only[zaB,zap,Nat.add_assoc]
theorem zeF {n c:Str} {ms:List Str} (h0:ms≠[]) {s:Ps} {rest:List Tk} (hr:isK rest [44]=false) (a:At s ((1,n,0)::(3,c,0)::(1,za1,0)::(joinK (ms.map nameK)++rest))) :
 za3 s=(⟨3,n,[],zSc,[],zPl,c,ms⟩,advN s (1+(1+(1+(joinK (ms.map nameK)).length)))):=by
 obtain ⟨e1,h1⟩:=zb8 a;obtain ⟨e2,e3,h2⟩:=zre h1;obtain ⟨e4,h4⟩:=zbx (.inl rfl) h2;have e5:=zgV h0 h4 hr;unfold za3;rw[e1];simp only;rw[e2,e3,e4,e5];simp only[zaB,zap,Nat.add_assoc];rfl
theorem zrz (r:List Tk):Sg qE ((4,[59],0)::r):=Sg.cons (by decide) r
theorem zqp {d:Df} (ok:OkD d) {s:Ps} {rest:List Tk} (a:At s (dfK d++rest)):defP s=(d,advN s (dfK d).length)∧At (advN s (dfK d).length) rest:=by
 refine ⟨?_,a.app⟩
 cases ok with
 | source n cs x hn h0 hc hs =>
  have h:At s ((1,zba,0)::(1,n,0)::(4,[40],0)::(joinK (cs.map colK2)++(4,[41],0)::(scK x++(4,[59],0)::rest))):=by
   have e:dfK ⟨1,n,cs,x,[],zPl,[],[]⟩++rest=(1,zba,0)::(1,n,0)::(4,[40],0)::(joinK (cs.map colK2)++(4,[41],0)::(scK x++(4,[59],0)::rest)):=by
    show (((1,zba,0)::(1,n,0)::(4,[40],0)::(joinK (cs.map colK2)++(4,[41],0)::scK x))++[(4,[59],0)])++rest=_
    simp only[List.cons_append,yM,List.nil_append]
   rw[e]at a;exact a
  obtain ⟨e1,h1⟩:=zdM (ws:=zal) (j:=0) (.inl rfl) h (by decide);have e2:=zf0 h0 (fun c hc'=>(hc c hc').2) hs h1;have h2:At (advN (advP s) (1+(1+((joinK (cs.map colK2)).length+(1+(scK x).length))))) ((4,[59],0)::rest):=by
   have:=At.app (a:=(1,n,0)::(4,[40],0)::(joinK (cs.map colK2)++(4,[41],0)::scK x)) (b:=(4,[59],0)::rest) (s:=advP s) (by simpa only[List.cons_append,yM] using h1);have el:((1,n,0)::(4,[40],0)::(joinK (cs.map colK2)++(4,[41],0)::scK x):List Tk).length=1+(1+((joinK (cs.map colK2)).length+(1+(scK x).length))):=by
    simp only[yB,yA];omega
   rw[el]at this;exact this
  obtain ⟨e3,h3⟩:=zbx (.inr rfl) h2;unfold defP;rw[e1];show ((zbz (advP s)).1,wantP [59] (zbz (advP s)).2)=_
  rw[e2];simp only;rw[e3,zaB,zaB,zap,zap];congr 2
  unfold dfK dfK0;rw[if_pos (show (Df.mk 1 n cs x [] zPl [] []).k=1 from rfl)];simp only[yB,yA,List.length_nil];omega
 | asset n x ins p hn hs h0 hi hp hd =>
  have h:At s ((1,zbl,0)::(1,n,0)::(scK x++(1,sFrom,0)::(joinK (ins.map inK)++(1,sDo,0)::(tkQ p++(4,[59],0)::rest)))):=by
   have e:dfK ⟨2,n,[],x,ins,p,[],[]⟩++rest=(1,zbl,0)::(1,n,0)::(scK x++(1,sFrom,0)::(joinK (ins.map inK)++(1,sDo,0)::(tkQ p++(4,[59],0)::rest))):=by
    show (((1,zbl,0)::(1,n,0)::(scK x++(1,sFrom,0)::(joinK (ins.map inK)++(1,sDo,0)::tkQ p)))++[(4,[59],0)])++rest=_
    simp only[List.cons_append,yM,List.nil_append]
   rw[e]at a;exact a
  obtain ⟨e1,h1⟩:=zdM (ws:=zal) (j:=1) (.inl rfl) h (by decide);have e2:=zhr hs h0 hi hp hd (zrz rest) h1;have h2:At (advN (advP s) (1+((scK x).length+(1+((joinK (ins.map inK)).length+(1+(tkQ p).length)))))) ((4,[59],0)::rest):=by
   have:=At.app (a:=(1,n,0)::(scK x++(1,sFrom,0)::(joinK (ins.map inK)++(1,sDo,0)::tkQ p))) (b:=(4,[59],0)::rest) (s:=advP s) (by simpa only[List.cons_append,yM] using h1);have el:((1,n,0)::(scK x++(1,sFrom,0)::(joinK (ins.map inK)++(1,sDo,0)::tkQ p)):List Tk).length=1+((scK x).length+(1+((joinK (ins.map inK)).length+(1+(tkQ p).length)))):=by
    simp only[yB,yA];omega
   rw[el]at this;exact this
  obtain ⟨e3,h3⟩:=zbx (.inr rfl) h2;unfold defP;rw[e1];show ((zcl (advP s)).1,wantP [59] (zcl (advP s)).2)=_
  rw[e2];simp only;rw[e3,zaB,zaB,zap,zap];congr 2
  unfold dfK dfK0;rw[if_neg (show ¬ (2:Int)=1 from by decide),if_pos (show (Df.mk 2 n [] x ins p [] []).k=2 from rfl)];simp only[yB,yA,List.length_nil];omega
 | schedule n c ms hn hc h0 hm =>
  have h:At s ((1,zaG,0)::(1,n,0)::(3,c,0)::(1,za1,0)::(joinK (ms.map nameK)++(4,[59],0)::rest)):=by
   have e:dfK ⟨3,n,[],zSc,[],zPl,c,ms⟩++rest=(1,zaG,0)::(1,n,0)::(3,c,0)::(1,za1,0)::(joinK (ms.map nameK)++(4,[59],0)::rest):=by
    show (((1,zaG,0)::(1,n,0)::(3,c,0)::(1,za1,0)::joinK (ms.map nameK))++[(4,[59],0)])++rest=_
    simp only[List.cons_append,yM,List.nil_append]
   rw[e]at a;exact a
  obtain ⟨e1,h1⟩:=zdM (ws:=zal) (j:=2) (.inl rfl) h (by decide);have e2:=zeF h0 (rest:=(4,[59],0)::rest) (by rw[zc6];decide) h1;have h2:At (advN (advP s) (1+(1+(1+(joinK (ms.map nameK)).length)))) ((4,[59],0)::rest):=by
   have:=At.app (a:=(1,n,0)::(3,c,0)::(1,za1,0)::joinK (ms.map nameK)) (b:=(4,[59],0)::rest) (s:=advP s) (by simpa only[List.cons_append,yM] using h1);have el:((1,n,0)::(3,c,0)::(1,za1,0)::joinK (ms.map nameK):List Tk).length=1+(1+(1+(joinK (ms.map nameK)).length)):=by
    simp only[yB];omega
   rw[el]at this;exact this
  obtain ⟨e3,h3⟩:=zbx (.inr rfl) h2;unfold defP;rw[e1];show ((za3 (advP s)).1,wantP [59] (za3 (advP s)).2)=_
  rw[e2];simp only;rw[e3,zaB,zaB,zap,zap];congr 2
  unfold dfK dfK0;rw[if_neg (show ¬ (3:Int)=1 from by decide),if_neg (show ¬ (3:Int)=2 from by decide)];simp only[yB,yA,List.length_nil];omega
theorem zqZ (d:Df):dfK d≠[]:=by unfold dfK;simp
theorem zej:∀ (ds:List Df) (fuel:Nat) (acc:List Df) (s:Ps),(∀ d∈ds,OkD d)→At s (defsK ds)→s.T.length≤fuel+s.i→za4 fuel acc s=(acc++ds,advN s (defsK ds).length)
 | [],fuel,acc,s,ok,a,hf=>by
  have hT:s.T.length≤s.i:=by
   have h2:=a.2;change (s.T.drop s.i).map tri=[]at h2
   have:(s.T.drop s.i).length=0:=by rw[← yC (f:=tri),h2];rfl
   rw[List.length_drop]at this;omega
  have e:za4 fuel acc s=(acc,s):=by
   cases fuel with
   | zero=>rfl
   | succ n=>unfold za4;rw[if_neg (by omega)]
  rw[e,List.append_nil];rfl
 | d::ds,fuel,acc,s,ok,a,hf=>by
  have a0:At s (dfK d++defsK ds):=a;obtain ⟨e1,h1⟩:=zqp (ok d (by simp)) a0;have hlt:s.i<s.T.length:=by
   apply Classical.byContradiction;intro hn;have h2:=a0.2;change (s.T.drop s.i).map tri=_ at h2
   rw[List.drop_of_length_le (by omega)]at h2;exact zqZ d (List.append_eq_nil_iff.1 h2.symm).1
  have hpos:0<(dfK d).length:=by
   cases h:dfK d with
   | nil=>exact absurd h (zqZ d)
   | cons x r=>simp
  obtain ⟨fu,rfl⟩:∃ fu,fuel=fu+1:=⟨fuel-1,by omega⟩;unfold za4;rw[if_pos ⟨a0.1,hlt⟩,e1];simp only;rw[zej ds fu (acc++[d]) _ (fun x hx=>ok x (by simp[hx])) h1 (by show s.T.length≤fu+(s.i+(dfK d).length);omega),zap,yM];congr 2
  show (dfK d).length+(defsK ds).length=(dfK d++defsK ds).length
  rw[yA]
theorem zkR:zao zbl:=.inl ⟨rfl,rfl,⟨97,[115,115,101,116],rfl,by decide⟩,by decide,by decide⟩
theorem znL:zao sFrom:=.inl ⟨rfl,rfl,⟨102,[114,111,109],rfl,by decide⟩,by decide,by decide⟩
theorem kw_do:zao sDo:=.inl ⟨rfl,rfl,⟨100,[111],rfl,by decide⟩,by decide,by decide⟩
theorem znK:zao zmJ:=.inl ⟨rfl,rfl,⟨104,[111,117,114,108,121],rfl,by decide⟩,by decide,by decide⟩
theorem zpY:zao zqK:=.inl ⟨rfl,rfl,⟨100,[97,105,108,121],rfl,by decide⟩,by decide,by decide⟩
theorem znE:zao zmH:=.inl ⟨rfl,rfl,⟨119,[101,101,107,108,121],rfl,by decide⟩,by decide,by decide⟩
theorem zlP:zao zkr:=.inl ⟨rfl,rfl,⟨109,[111,110,116,104,108,121],rfl,by decide⟩,by decide,by decide⟩
theorem znF:zao zmI:=.inl ⟨rfl,rfl,⟨115,[116,97,116,105,99],rfl,by decide⟩,by decide,by decide⟩
theorem zr5:zao sSame:=.inl ⟨rfl,rfl,⟨115,[97,109,101],rfl,by decide⟩,by decide,by decide⟩
theorem zr6:zao sLast:=.inl ⟨rfl,rfl,⟨108,[97,115,116],rfl,by decide⟩,by decide,by decide⟩
theorem zpW:zao zqJ:=.inl ⟨rfl,rfl,⟨115,[104,105,102,116],rfl,by decide⟩,by decide,by decide⟩
theorem znD:zao zmG:=.inl ⟨rfl,rfl,⟨119,[105,116,104,105,110],rfl,by decide⟩,by decide,by decide⟩
theorem ztm:zao sAll:=.inl ⟨rfl,rfl,⟨97,[108,108],rfl,by decide⟩,by decide,by decide⟩
theorem ziU {k:Int} (h:1≤k∧k≤5):zao (wAt zaw k):=by
 obtain ⟨h1,h2⟩:=h;have:k=1∨k=2∨k=3∨k=4∨k=5:=by omega
 rcases this with rfl|rfl|rfl|rfl|rfl
 ·exact znK
 ·exact zpY
 ·exact znE
 ·exact zlP
 ·exact znF
theorem zqP {k:Int} (h:1≤k∧k≤5):zao (wAt zaf k):=by
 obtain ⟨h1,h2⟩:=h;have:k=1∨k=2∨k=3∨k=4∨k=5:=by omega
 rcases this with rfl|rfl|rfl|rfl|rfl
 ·exact zr5
 ·exact zr6
 ·exact zpW
 ·exact znD
 ·exact ztm
theorem znR {n:Int} (h:n<0):Lib.itoa n=45::Lib.itoa (-n):=by
 obtain ⟨u,rfl⟩:∃ u:Nat,n=-(u:Int):=⟨(-n).toNat,by omega⟩;have h0:0<u:=by omega
 rw[Int.neg_neg,Lib.itoa_nonneg];unfold Lib.itoa;rw[if_pos h];simp
theorem zqD {x:Inp} (h:OkIn x):WrT (inN x) (inNK x)∧(inNK x=[]→inN x=[]):=by
 obtain ⟨_,_,hk,h2,h3,hz⟩:=h;unfold inN inNK;by_cases k2:x.k=2
 ·rw[if_pos (.inl k2),if_pos k2];exact ⟨zdP (h2 k2).1 (h2 k2).2,fun e=>by cases e⟩
 ·rw[if_neg k2];by_cases k3:x.k=3
  ·rw[if_pos (.inr k3),if_pos k3];by_cases hn:x.n<0
   ·rw[if_pos hn,znR hn];refine ⟨?_,fun e=>by cases e⟩;exact (zbs (x:=[45]) (by decide) (by decide) (by decide)).app (zdP (by omega) (by have:=(h3 k3).1;omega))
   ·rw[if_neg hn];exact ⟨zdP (by omega) (h3 k3).2,fun e=>by cases e⟩
  ·rw[if_neg k3,if_neg (fun h=>by rcases h with h|h;exact k2 h;exact k3 h)];exact ⟨WrT.empty,fun _=>rfl⟩
theorem zga (l:List UInt8):zaJ l=allR [] (defsP (openP l)).2 (defsP (openP l)).1:=by
 unfold zaJ allR;rw[show (defsP (openP l)).2.E=l.length from (zb5 _ _ _).E]
theorem zlA {l:Str} {ds:List Df} (ok:∀ d∈ds,OkD d) (h:RdT l (defsK ds)) (hl:l.length≤16384):zaJ l=(ds,l.length,0):=by
 obtain ⟨ha,hn⟩:=ze9 h hl;have hb:defsP (openP l)=(ds,advN (openP l) (defsK ds).length):=by
  unfold defsP;rw[zej ds _ [] (openP l) ok ha (by omega),List.nil_append]
 rw[zga,hb];exact zh8 h hl rfl
def Rl (n:Nat) (s s':Ps):Prop:=s'.e=s.e∧∀ j,j<n→(s'.T[s'.i+j]?).map tri=(s.T[s.i+j]?).map tri
structure Loc {α:Type} (f:Ps→α×Ps):Prop where
 go:∀ s,Goes s (f s).2
 eq:∀ n s s',Rl n s s'→(f s).2.i<s.i+n→(f s').1=(f s).1∧(f s').2.e=(f s).2.e∧(f s').2.i+s.i=(f s).2.i+s'.i
structure LocD (D:Dp):Prop where
 dor:Loc D.dor
 dnot:Loc D.dnot
 dminus:Loc D.dminus
 dparen:Loc D.dparen
section
variable {D:Dp} (h:LocD D)
include h
end
