/- Definitions: their text, their tokens, what is well formed; their own tokens are read back as them. No program in sight. Definitions: their text is cut into their tokens; what is read is well formed, and has a text that tells it again. No program in sight. Definitions: what is read is well formed, its text not much longer than what it was read from. No program in sight. The plain law of the reader: it looks at nothing but the tokens that it takes, and the one behind them; where they begin is all one. No program in sight. -/
import Derived.Test.YtonkjhmkppeagaaGreatDoorNQy
set_option linter.unusedVariables false
namespace Go.Proofs.YtonkjhmkppeagaaGreatDoor.Pz
open Go Go.RowKit Lx
def wAt (ws:List Str) (k:Int):Str:=ws.getD (k.toNat - 1) []
def colT (c:Str × Int):Str:=c.1++(32::(if 2≤c.2 then sText else sInt))
def scT (s:Sc):Str:=if 1≤s.k∧s.k≤5 then wAt schemeWords s.k++(32::(Lib.itoa s.f++([46,46]++Lib.itoa s.l))) else []
def colK2 (c:Str × Int):List Tk:=[(1,c.1,0),(1,if 2≤c.2 then sText else sInt,0)]
def scK (s:Sc):List Tk:=[(1,wAt schemeWords s.k,0),(2,[],s.f),(4,[46,46],0),(2,[],s.l)]
def inNK (x:Inp):List Tk:=if x.k=2 then [(2,[],x.n)] else if x.k=3 then (if x.n < 0 then [(4,[45],0),(2,[],-x.n)] else [(2,[],x.n)]) else []
def inK (x:Inp):List Tk:=(1,x.a,0)::(1,wAt mapWords x.k,0)::(inNK x++[(1,sAs,0),(1,x.s,0)])
def nameK (n:Str):List Tk:=[(1,n,0)]
def dfK0 (d:Df):List Tk :=
 if d.k=1 then (1,sSource,0)::(1,d.nm,0)::(4,[40],0)::(joinK (d.sch.map colK2)++(4,[41],0)::scK d.sc)
 else if d.k=2 then (1,sAsset,0)::(1,d.nm,0)::(scK d.sc++(1,sFrom,0)::(joinK (d.ins.map inK)++(1,sDo,0)::tkQ d.plan))
 else (1,sSchedule,0)::(1,d.nm,0)::(3,d.cron,0)::(1,sMakes,0)::joinK (d.mks.map nameK)
def dfK (d:Df):List Tk:=dfK0 d++[(4,[59],0)]
def defsK (l:List Df):List Tk:=(l.map dfK).flatten
def OkSc (s:Sc):Prop:=(1≤s.k∧s.k≤5)∧(0≤s.f∧s.f≤9223372036854775807)∧(0≤s.l∧s.l≤9223372036854775807)
def OkIn (x:Inp):Prop:=WordOk x.a∧WordOk x.s∧(1≤x.k∧x.k≤5)∧(x.k=2→0≤x.n∧x.n≤9223372036854775807)∧(x.k=3→-9223372036854775807≤x.n∧x.n≤9223372036854775807)∧(x.k≠2→x.k≠3→x.n=0)
inductive OkD:Df→Prop
 | source (n:Str) (cs:List (Str × Int)) (s:Sc) (hn:WordOk n) (h0:cs≠[]) (hc:∀ c ∈ cs,WordOk c.1∧(c.2=1∨c.2=2)) (hs:OkSc s):OkD ⟨1,n,cs,s,[],zPl,[],[]⟩
 | asset (n:Str) (s:Sc) (ins:List Inp) (p:Pl) (hn:WordOk n) (hs:OkSc s) (h0:ins≠[]) (hi:∀ x ∈ ins,OkIn x) (hp:OkQ p) (hd:deepQ p≤31):OkD ⟨2,n,[],s,ins,p,[],[]⟩
 | schedule (n c:Str) (ms:List Str) (hn:WordOk n) (hc:TokOk ⟨3,c,0,0⟩) (h0:ms≠[]) (hm:∀ m ∈ ms,WordOk m):OkD ⟨3,n,[],zSc,[],zPl,c,ms⟩
theorem wAt_scheme {k:Int} (h:1≤k∧k≤5):∃ j,whichW (wAt schemeWords k) schemeWords=some j∧((1+j:Nat):Int)=k:=by
 obtain ⟨h1,h2⟩:=h
 have:k=1∨k=2∨k=3∨k=4∨k=5:=by omega
 rcases this with rfl|rfl|rfl|rfl|rfl
 ·exact ⟨0,by decide,rfl⟩
 ·exact ⟨1,by decide,rfl⟩
 ·exact ⟨2,by decide,rfl⟩
 ·exact ⟨3,by decide,rfl⟩
 ·exact ⟨4,by decide,rfl⟩
theorem wAt_map {k:Int} (h:1≤k∧k≤5):∃ j,whichW (wAt mapWords k) mapWords=some j∧((1+j:Nat):Int)=k:=by
 obtain ⟨h1,h2⟩:=h
 have:k=1∨k=2∨k=3∨k=4∨k=5:=by omega
 rcases this with rfl|rfl|rfl|rfl|rfl
 ·exact ⟨0,by decide,rfl⟩
 ·exact ⟨1,by decide,rfl⟩
 ·exact ⟨2,by decide,rfl⟩
 ·exact ⟨3,by decide,rfl⟩
 ·exact ⟨4,by decide,rfl⟩
theorem scheme_back {s:Ps} {x:Sc} {rest:List Tk} (hx:OkSc x) (a:At s (scK x++rest)):schemeP s=(x,advN s (scK x).length):=by
 obtain ⟨j,j1,j2⟩:=wAt_scheme hx.1
 obtain ⟨e1,h1⟩:=one_at (ws:=schemeWords) (.inl rfl) (rest:=(2,[],x.f)::(4,[46,46],0)::(2,[],x.l)::rest) a j1
 obtain ⟨e2,e3,h2⟩:=num_at h1
 obtain ⟨e4,h3⟩:=want_at (.inr rfl) h2
 obtain ⟨e5,e6,h4⟩:=num_at h3
 unfold schemeP
 rw [e1]
 simp only
 rw [e2,e3,e4,e5,e6,j2]
 rfl
theorem col_back {c:Str × Int} {a:List (Str × Int)} {s:Ps} {r:List Tk} (hc:c.2=1∨c.2=2) (h:At s (colK2 c++r)):colItem a s=(a++[c],advN s (colK2 c).length):=by
 obtain ⟨e1,h1⟩:=name_at (rest:=(1,if 2≤c.2 then sText else sInt,0)::r) h
 obtain ⟨n,t⟩:=c
 unfold colItem
 rw [e1]
 simp only at hc h1 ⊢
 rcases hc with rfl|rfl
 ·obtain ⟨e2,h2⟩:=one_at (ws:=[sInt,sText]) (j:=0) (.inl rfl) h1 (by rw [if_neg (by decide)];decide)
  rw [e2];rfl
 ·obtain ⟨e2,h2⟩:=one_at (ws:=[sInt,sText]) (j:=1) (.inl rfl) h1 (by rw [if_pos (by decide)];decide)
  rw [e2];rfl
theorem cols_back {s:Ps} {cs:List (Str × Int)} {rest:List Tk} (h0:cs≠[]) (hc:∀ c ∈ cs,c.2=1∨c.2=2) (a:At s (joinK (cs.map colK2)++rest)) (hn:isK rest [44]=false):listP colItem [] s=(cs,advN s (joinK (cs.map colK2)).length):=by
 rw [list_back (f:=colItem) (tk:=colK2) (put:=fun a n=>a++[n]) (stop:=stopAll) (item:=fun c=>c.2=1∨c.2=2) (fun x a s r hx h _=>col_back hx h) (fun _=>trivial) trivial hn h0 [] hc a,snoc_fold]
theorem mapK_back {x:Inp} {s:Ps} {j:Nat} (hj:((1+j:Nat):Int)=x.k) (hx:OkIn x) {r:List Tk} (h:At s (inNK x++(1,sAs,0)::r)):mapK (1+j) s=(x.n,advN s (inNK x).length):=by
 obtain ⟨_,_,hk,h2,h3,hz⟩:=hx
 unfold mapK
 unfold inNK at h ⊢
 by_cases k2:x.k=2
 ·rw [if_pos k2] at h ⊢
  rw [if_pos (by omega)]
  obtain ⟨e1,e2,_⟩:=num_at (rest:=(1,sAs,0)::r) h
  rw [e1,e2];rfl
 ·rw [if_neg k2] at h ⊢
  rw [if_neg (by omega)]
  by_cases k3:x.k=3
  ·rw [if_pos k3] at h ⊢
   rw [if_pos (by omega)]
   by_cases hn:x.n < 0
   ·rw [if_pos hn] at h ⊢
    have h':At s ((4,[45],0)::(2,[],-x.n)::(1,sAs,0)::r):=h
    rw [if_pos (by rw [is_at (.inr rfl) h'];decide)]
    obtain ⟨e1,e2,_⟩:=num_at h'.peek.2.1
    rw [e1,e2]
    refine Prod.ext ?_ rfl
    show -(-x.n)=x.n
    omega
   ·rw [if_neg hn] at h ⊢
    have h':At s ((2,[],x.n)::(1,sAs,0)::r):=h
    have hk2:(peekP s).k=2:=congrArg (·.1) h'.peek.1
    rw [if_neg (by
     unfold isP
     rw [hk2,decide_eq_false (fun h=>by rcases h.1 with h|h<;>exact absurd h (by decide))]
     decide)]
    obtain ⟨e1,e2,_⟩:=num_at h'
    rw [e1,e2];rfl
  ·rw [if_neg k3] at h ⊢
   rw [if_neg (by omega),hz k2 k3];rfl
theorem in_back {x:Inp} {a:List Inp} {s:Ps} {r:List Tk} (hx:OkIn x) (h:At s (inK x++r)):inItem a s=(a++[x],advN s (inK x).length):=by
 obtain ⟨j,j1,j2⟩:=wAt_map hx.2.2.1
 have h0:At s ((1,x.a,0)::(1,wAt mapWords x.k,0)::(inNK x++(1,sAs,0)::(1,x.s,0)::r)):=by
  have:inK x++r=(1,x.a,0)::(1,wAt mapWords x.k,0)::(inNK x++(1,sAs,0)::(1,x.s,0)::r):=by
   unfold inK
   rw [List.cons_append,List.cons_append,List.append_assoc];rfl
  rw [this] at h;exact h
 obtain ⟨e1,h1⟩:=name_at h0
 obtain ⟨e2,h2⟩:=one_at (ws:=mapWords) (.inl rfl) h1 j1
 have e3:=mapK_back j2 hx h2
 obtain ⟨e4,h4⟩:=want_at (.inl rfl) h2.app
 obtain ⟨e5,h5⟩:=name_at h4
 have em:mappingP (advP s)=((x.k,x.n),advN (advP (advP s)) (inNK x).length):=by
  unfold mappingP
  rw [e2]
  simp only
  rw [e3,j2]
 unfold inItem
 rw [e1]
 simp only
 rw [em]
 simp only
 rw [e4,e5]
 refine Prod.ext rfl ?_
 show advP (advP (advN (advP (advP s)) (inNK x).length))=advN s (inK x).length
 rw [advN_one,advN_one,advN_one,advN_one,advN_advN,advN_advN,advN_advN,advN_advN]
 congr 1
 unfold inK
 simp only [List.length_cons,List.length_append,List.length_nil];omega
theorem ins_back {s:Ps} {ins:List Inp} {rest:List Tk} (h0:ins≠[]) (hi:∀ x ∈ ins,OkIn x) (a:At s (joinK (ins.map inK)++rest)) (hn:isK rest [44]=false):listP inItem [] s=(ins,advN s (joinK (ins.map inK)).length):=by
 rw [list_back (f:=inItem) (tk:=inK) (put:=fun a n=>a++[n]) (stop:=stopAll) (item:=OkIn) (fun x a s r hx h _=>in_back hx h) (fun _=>trivial) trivial hn h0 [] hi a,snoc_fold]
theorem source_back {n:Str} {cs:List (Str × Int)} {x:Sc} (h0:cs≠[]) (hc:∀ c ∈ cs,c.2=1∨c.2=2) (hs:OkSc x) {s:Ps} {rest:List Tk} (a:At s ((1,n,0)::(4,[40],0)::(joinK (cs.map colK2)++(4,[41],0)::(scK x++rest)))) :
 sourceP s=(⟨1,n,cs,x,[],zPl,[],[]⟩,advN s (1+(1+((joinK (cs.map colK2)).length+(1+(scK x).length))))):=by
 obtain ⟨e1,h1⟩:=name_at a
 obtain ⟨e2,h2⟩:=want_at (.inr rfl) h1
 have e3:=cols_back h0 hc h2 (by rw [isK_hd];decide)
 obtain ⟨e4,h4⟩:=want_at (.inr rfl) h2.app
 have e5:=scheme_back hs h4
 unfold sourceP
 rw [e1]
 simp only
 rw [e2,e3]
 simp only
 rw [e4,e5]
 simp only [advN_one,advN_advN,Nat.add_assoc]
theorem asset_back {n:Str} {x:Sc} {ins:List Inp} {p:Pl} (hs:OkSc x) (h0:ins≠[]) (hi:∀ x ∈ ins,OkIn x) (hp:OkQ p) (hd:deepQ p≤31) {s:Ps} {rest:List Tk} (st:Sg qE rest) (a:At s ((1,n,0)::(scK x++(1,sFrom,0)::(joinK (ins.map inK)++(1,sDo,0)::(tkQ p++rest))))) :
 assetP s=(⟨2,n,[],x,ins,p,[],[]⟩,advN s (1+((scK x).length+(1+((joinK (ins.map inK)).length+(1+(tkQ p).length)))))):=by
 obtain ⟨e1,h1⟩:=name_at a
 have e2:=scheme_back hs h1
 obtain ⟨e3,h3⟩:=want_at (.inl rfl) h1.app
 have e4:=ins_back h0 hi h3 (by rw [isK_hd];decide)
 obtain ⟨e5,h5⟩:=want_at (.inl rfl) h3.app
 have e6:=(top_back hp h5 st).1 hd
 unfold assetP
 rw [e1]
 simp only
 rw [e2]
 simp only
 rw [e3,e4]
 simp only
 rw [e5,e6]
 simp only [advN_one,advN_advN,Nat.add_assoc]
theorem schedule_back {n c:Str} {ms:List Str} (h0:ms≠[]) {s:Ps} {rest:List Tk} (hr:isK rest [44]=false) (a:At s ((1,n,0)::(3,c,0)::(1,sMakes,0)::(joinK (ms.map nameK)++rest))) :
 scheduleP s=(⟨3,n,[],zSc,[],zPl,c,ms⟩,advN s (1+(1+(1+(joinK (ms.map nameK)).length)))):=by
 obtain ⟨e1,h1⟩:=name_at a
 obtain ⟨e2,e3,h2⟩:=text_at h1
 obtain ⟨e4,h4⟩:=want_at (.inl rfl) h2
 have e5:=names_back h0 h4 hr
 unfold scheduleP
 rw [e1]
 simp only
 rw [e2,e3,e4,e5]
 simp only [advN_one,advN_advN,Nat.add_assoc]
 rfl
theorem semi_sg (r:List Tk):Sg qE ((4,[59],0)::r):=Sg.cons (by decide) r
theorem def_back {d:Df} (ok:OkD d) {s:Ps} {rest:List Tk} (a:At s (dfK d++rest)):defP s=(d,advN s (dfK d).length)∧At (advN s (dfK d).length) rest:=by
 refine ⟨?_,a.app⟩
 cases ok with
 | source n cs x hn h0 hc hs =>
  have h:At s ((1,sSource,0)::(1,n,0)::(4,[40],0)::(joinK (cs.map colK2)++(4,[41],0)::(scK x++(4,[59],0)::rest))):=by
   have e:dfK ⟨1,n,cs,x,[],zPl,[],[]⟩++rest=(1,sSource,0)::(1,n,0)::(4,[40],0)::(joinK (cs.map colK2)++(4,[41],0)::(scK x++(4,[59],0)::rest)):=by
    show (((1,sSource,0)::(1,n,0)::(4,[40],0)::(joinK (cs.map colK2)++(4,[41],0)::scK x))++[(4,[59],0)])++rest=_
    simp only [List.cons_append,List.append_assoc,List.nil_append]
   rw [e] at a;exact a
  obtain ⟨e1,h1⟩:=one_at (ws:=defWords) (j:=0) (.inl rfl) h (by decide)
  have e2:=source_back h0 (fun c hc'=>(hc c hc').2) hs h1
  have h2:At (advN (advP s) (1+(1+((joinK (cs.map colK2)).length+(1+(scK x).length))))) ((4,[59],0)::rest):=by
   have:=At.app (a:=(1,n,0)::(4,[40],0)::(joinK (cs.map colK2)++(4,[41],0)::scK x)) (b:=(4,[59],0)::rest) (s:=advP s) (by simpa only [List.cons_append,List.append_assoc] using h1)
   have el:((1,n,0)::(4,[40],0)::(joinK (cs.map colK2)++(4,[41],0)::scK x):List Tk).length=1+(1+((joinK (cs.map colK2)).length+(1+(scK x).length))):=by
    simp only [List.length_cons,List.length_append];omega
   rw [el] at this;exact this
  obtain ⟨e3,h3⟩:=want_at (.inr rfl) h2
  unfold defP
  rw [e1]
  show ((sourceP (advP s)).1,wantP [59] (sourceP (advP s)).2)=_
  rw [e2]
  simp only
  rw [e3,advN_one,advN_one,advN_advN,advN_advN]
  congr 2
  unfold dfK dfK0
  rw [if_pos (show (Df.mk 1 n cs x [] zPl [] []).k=1 from rfl)]
  simp only [List.length_cons,List.length_append,List.length_nil];omega
 | asset n x ins p hn hs h0 hi hp hd =>
  have h:At s ((1,sAsset,0)::(1,n,0)::(scK x++(1,sFrom,0)::(joinK (ins.map inK)++(1,sDo,0)::(tkQ p++(4,[59],0)::rest)))):=by
   have e:dfK ⟨2,n,[],x,ins,p,[],[]⟩++rest=(1,sAsset,0)::(1,n,0)::(scK x++(1,sFrom,0)::(joinK (ins.map inK)++(1,sDo,0)::(tkQ p++(4,[59],0)::rest))):=by
    show (((1,sAsset,0)::(1,n,0)::(scK x++(1,sFrom,0)::(joinK (ins.map inK)++(1,sDo,0)::tkQ p)))++[(4,[59],0)])++rest=_
    simp only [List.cons_append,List.append_assoc,List.nil_append]
   rw [e] at a;exact a
  obtain ⟨e1,h1⟩:=one_at (ws:=defWords) (j:=1) (.inl rfl) h (by decide)
  have e2:=asset_back hs h0 hi hp hd (semi_sg rest) h1
  have h2:At (advN (advP s) (1+((scK x).length+(1+((joinK (ins.map inK)).length+(1+(tkQ p).length)))))) ((4,[59],0)::rest):=by
   have:=At.app (a:=(1,n,0)::(scK x++(1,sFrom,0)::(joinK (ins.map inK)++(1,sDo,0)::tkQ p))) (b:=(4,[59],0)::rest) (s:=advP s) (by simpa only [List.cons_append,List.append_assoc] using h1)
   have el:((1,n,0)::(scK x++(1,sFrom,0)::(joinK (ins.map inK)++(1,sDo,0)::tkQ p)):List Tk).length=1+((scK x).length+(1+((joinK (ins.map inK)).length+(1+(tkQ p).length)))):=by
    simp only [List.length_cons,List.length_append];omega
   rw [el] at this;exact this
  obtain ⟨e3,h3⟩:=want_at (.inr rfl) h2
  unfold defP
  rw [e1]
  show ((assetP (advP s)).1,wantP [59] (assetP (advP s)).2)=_
  rw [e2]
  simp only
  rw [e3,advN_one,advN_one,advN_advN,advN_advN]
  congr 2
  unfold dfK dfK0
  rw [if_neg (show ¬ (2:Int)=1 from by decide),if_pos (show (Df.mk 2 n [] x ins p [] []).k=2 from rfl)]
  simp only [List.length_cons,List.length_append,List.length_nil];omega
 | schedule n c ms hn hc h0 hm =>
  have h:At s ((1,sSchedule,0)::(1,n,0)::(3,c,0)::(1,sMakes,0)::(joinK (ms.map nameK)++(4,[59],0)::rest)):=by
   have e:dfK ⟨3,n,[],zSc,[],zPl,c,ms⟩++rest=(1,sSchedule,0)::(1,n,0)::(3,c,0)::(1,sMakes,0)::(joinK (ms.map nameK)++(4,[59],0)::rest):=by
    show (((1,sSchedule,0)::(1,n,0)::(3,c,0)::(1,sMakes,0)::joinK (ms.map nameK))++[(4,[59],0)])++rest=_
    simp only [List.cons_append,List.append_assoc,List.nil_append]
   rw [e] at a;exact a
  obtain ⟨e1,h1⟩:=one_at (ws:=defWords) (j:=2) (.inl rfl) h (by decide)
  have e2:=schedule_back h0 (rest:=(4,[59],0)::rest) (by rw [isK_hd];decide) h1
  have h2:At (advN (advP s) (1+(1+(1+(joinK (ms.map nameK)).length)))) ((4,[59],0)::rest):=by
   have:=At.app (a:=(1,n,0)::(3,c,0)::(1,sMakes,0)::joinK (ms.map nameK)) (b:=(4,[59],0)::rest) (s:=advP s) (by simpa only [List.cons_append,List.append_assoc] using h1)
   have el:((1,n,0)::(3,c,0)::(1,sMakes,0)::joinK (ms.map nameK):List Tk).length=1+(1+(1+(joinK (ms.map nameK)).length)):=by
    simp only [List.length_cons];omega
   rw [el] at this;exact this
  obtain ⟨e3,h3⟩:=want_at (.inr rfl) h2
  unfold defP
  rw [e1]
  show ((scheduleP (advP s)).1,wantP [59] (scheduleP (advP s)).2)=_
  rw [e2]
  simp only
  rw [e3,advN_one,advN_one,advN_advN,advN_advN]
  congr 2
  unfold dfK dfK0
  rw [if_neg (show ¬ (3:Int)=1 from by decide),if_neg (show ¬ (3:Int)=2 from by decide)]
  simp only [List.length_cons,List.length_append,List.length_nil];omega
theorem dfK_ne (d:Df):dfK d≠[]:=by unfold dfK;simp
theorem defs_loop_back:∀ (ds:List Df) (fuel:Nat) (acc:List Df) (s:Ps),(∀ d ∈ ds,OkD d)→At s (defsK ds)→s.T.length≤fuel+s.i→defsLoop fuel acc s=(acc++ds,advN s (defsK ds).length)
 | [],fuel,acc,s,ok,a,hf=>by
  have hT:s.T.length≤s.i:=by
   have h2:=a.2
   change (s.T.drop s.i).map tri=[] at h2
   have:(s.T.drop s.i).length=0:=by rw [← List.length_map (f:=tri),h2];rfl
   rw [List.length_drop] at this;omega
  have e:defsLoop fuel acc s=(acc,s):=by
   cases fuel with
   | zero=>rfl
   | succ n=>unfold defsLoop;rw [if_neg (by omega)]
  rw [e,List.append_nil];rfl
 | d::ds,fuel,acc,s,ok,a,hf=>by
  have a0:At s (dfK d++defsK ds):=a
  obtain ⟨e1,h1⟩:=def_back (ok d (by simp)) a0
  have hlt:s.i < s.T.length:=by
   apply Classical.byContradiction;intro hn
   have h2:=a0.2
   change (s.T.drop s.i).map tri=_ at h2
   rw [List.drop_of_length_le (by omega)] at h2
   exact dfK_ne d (List.append_eq_nil_iff.1 h2.symm).1
  have hpos:0 < (dfK d).length:=by
   cases h:dfK d with
   | nil=>exact absurd h (dfK_ne d)
   | cons x r=>simp
  obtain ⟨fu,rfl⟩:∃ fu,fuel=fu+1:=⟨fuel - 1,by omega⟩
  unfold defsLoop
  rw [if_pos ⟨a0.1,hlt⟩,e1]
  simp only
  rw [defs_loop_back ds fu (acc++[d]) _ (fun x hx=>ok x (by simp [hx])) h1 (by show s.T.length≤fu+(s.i+(dfK d).length);omega),advN_advN,List.append_assoc]
  congr 2
  show (dfK d).length+(defsK ds).length=(dfK d++defsK ds).length
  rw [List.length_append]
end Go.Proofs.YtonkjhmkppeagaaGreatDoor.Pz
namespace Go.Proofs.YtonkjhmkppeagaaGreatDoor.Pz
open Go Go.RowKit Lx
theorem kw_source:WordOk sSource:=.inl ⟨rfl,rfl,⟨115,[111,117,114,99,101],rfl,by decide⟩,by decide,by decide⟩
theorem kw_schedule:WordOk sSchedule:=.inl ⟨rfl,rfl,⟨115,[99,104,101,100,117,108,101],rfl,by decide⟩,by decide,by decide⟩
theorem kw_int:WordOk sInt:=.inl ⟨rfl,rfl,⟨105,[110,116],rfl,by decide⟩,by decide,by decide⟩
theorem kw_text:WordOk sText:=.inl ⟨rfl,rfl,⟨116,[101,120,116],rfl,by decide⟩,by decide,by decide⟩
theorem kw_makes:WordOk sMakes:=.inl ⟨rfl,rfl,⟨109,[97,107,101,115],rfl,by decide⟩,by decide,by decide⟩
theorem kw_hourly:WordOk sHourly:=.inl ⟨rfl,rfl,⟨104,[111,117,114,108,121],rfl,by decide⟩,by decide,by decide⟩
theorem kw_daily:WordOk sDaily:=.inl ⟨rfl,rfl,⟨100,[97,105,108,121],rfl,by decide⟩,by decide,by decide⟩
theorem kw_weekly:WordOk sWeekly:=.inl ⟨rfl,rfl,⟨119,[101,101,107,108,121],rfl,by decide⟩,by decide,by decide⟩
theorem kw_monthly:WordOk sMonthly:=.inl ⟨rfl,rfl,⟨109,[111,110,116,104,108,121],rfl,by decide⟩,by decide,by decide⟩
theorem kw_static:WordOk sStatic:=.inl ⟨rfl,rfl,⟨115,[116,97,116,105,99],rfl,by decide⟩,by decide,by decide⟩
theorem kw_scheme {k:Int} (h:1≤k∧k≤5):WordOk (wAt schemeWords k):=by
 obtain ⟨h1,h2⟩:=h
 have:k=1∨k=2∨k=3∨k=4∨k=5:=by omega
 rcases this with rfl|rfl|rfl|rfl|rfl
 ·exact kw_hourly
 ·exact kw_daily
 ·exact kw_weekly
 ·exact kw_monthly
 ·exact kw_static
theorem wr_quo {c:Str} (h:TokOk ⟨3,c,0,0⟩):WrA (Va.quotedL c) [(3,c,0)]:=fun r ts hr=>RdT.quo h hr
theorem wr_sc {s:Sc} (h:OkSc s):WrT (scT s) (scK s):=by
 unfold scT scK
 rw [if_pos h.1]
 refine wr_sp (k:=[(1,wAt schemeWords s.k,0)]) (wr_word (kw_scheme h.1)) ?_
 refine (wr_num h.2.1.1 h.2.1.2).app (k:=[(2,[],s.f)]) (j:=[(4,[46,46],0),(2,[],s.l)]) ?_ (fun r=>cl_one (by decide) (by decide))
 exact (wr_sign (x:=[46,46]) (by decide) (by decide) (by decide)).app (wr_num h.2.2.1 h.2.2.2)
theorem wr_col {c:Str × Int} (h:WordOk c.1∧(c.2=1∨c.2=2)):WrT (colT c) (colK2 c):=by
 unfold colT colK2
 refine wr_sp (k:=[(1,c.1,0)]) (wr_word h.1) ?_
 split
 ·exact wr_word kw_text
 ·exact wr_word kw_int
theorem parseOf_all (l:List UInt8):parseOf l=allR [] (defsP (openP l)).2 (defsP (openP l)).1:=by
 unfold parseOf allR
 rw [show (defsP (openP l)).2.E=l.length from (goes_defsLoop _ _ _).E]
theorem parseOf_rd {l:Str} {ds:List Df} (ok:∀ d ∈ ds,OkD d) (h:RdT l (defsK ds)) (hl:l.length≤16384):parseOf l=(ds,l.length,0):=by
 obtain ⟨ha,hn⟩:=open_at h hl
 have hb:defsP (openP l)=(ds,advN (openP l) (defsK ds).length):=by
  unfold defsP
  rw [defs_loop_back ds _ [] (openP l) ok ha (by omega),List.nil_append]
 rw [parseOf_all,hb]
 exact all_done h hl rfl
end Go.Proofs.YtonkjhmkppeagaaGreatDoor.Pz
namespace Go.Proofs.YtonkjhmkppeagaaGreatDoor.Pz
open Go Go.RowKit Lx
end Go.Proofs.YtonkjhmkppeagaaGreatDoor.Pz
namespace Go.Proofs.YtonkjhmkppeagaaGreatDoor.Pz
open Go Go.RowKit Lx
def Rl (n:Nat) (s s':Ps):Prop:=s'.e=s.e∧∀ j,j < n→(s'.T[s'.i+j]?).map tri=(s.T[s.i+j]?).map tri
structure Loc {α:Type} (f:Ps→α × Ps):Prop where
 go:∀ s,Goes s (f s).2
 eq:∀ n s s',Rl n s s'→(f s).2.i < s.i+n→(f s').1=(f s).1∧(f s').2.e=(f s).2.e∧(f s').2.i+s.i=(f s).2.i+s'.i
theorem Rl.less {n m:Nat} {s s':Ps} (h:Rl n s s') (hm:m≤n):Rl m s s':=⟨h.1,fun j hj=>h.2 j (by omega)⟩
theorem Rl.on {n c:Nat} {s s' t t':Ps} (h:Rl n s s') (e1:t.T=s.T) (e2:t'.T=s'.T) (e3:t.i=s.i+c) (e4:t'.i=s'.i+c) (e5:t'.e=t.e):Rl (n - c) t t' :=
 ⟨e5,fun j hj=>by rw [e1,e2,e3,e4,Nat.add_assoc,Nat.add_assoc];exact h.2 (c+j) (by omega)⟩
theorem Rl.peek {n:Nat} {s s':Ps} (h:Rl n s s') (hn:0 < n):tri (peekP s')=tri (peekP s):=by
 unfold peekP
 by_cases he:s.e=0
 ·rw [if_pos he,if_pos (h.1.trans he)]
  have h0:=h.2 0 hn
  rw [Nat.add_zero,Nat.add_zero] at h0
  rw [List.getD_eq_getElem?_getD,List.getD_eq_getElem?_getD]
  cases h1:s.T[s.i]? with
  | none =>
   cases h2:s'.T[s'.i]? with
   | none=>rfl
   | some t=>rw [h1,h2] at h0;cases h0
  | some u =>
   cases h2:s'.T[s'.i]? with
   | none=>rw [h1,h2] at h0;cases h0
   | some t=>rw [h1,h2] at h0;simpa using h0
 ·rw [if_neg he,if_neg (by rw [h.1];exact he)]
theorem Rl.k {n:Nat} {s s':Ps} (h:Rl n s s') (hn:0 < n):(peekP s').k=(peekP s).k:=congrArg (·.1) (h.peek hn)
theorem Rl.t {n:Nat} {s s':Ps} (h:Rl n s s') (hn:0 < n):(peekP s').t=(peekP s).t:=congrArg (·.2.1) (h.peek hn)
theorem Rl.n {n:Nat} {s s':Ps} (h:Rl n s s') (hn:0 < n):(peekP s').n=(peekP s).n:=congrArg (·.2.2) (h.peek hn)
theorem Rl.is {n:Nat} {s s':Ps} (h:Rl n s s') (hn:0 < n) (x:Str):isP s' x=isP s x:=by
 unfold isP
 rw [h.k hn,h.t hn]
theorem Rl.adv {n:Nat} {s s':Ps} (h:Rl n s s'):Rl (n - 1) (advP s) (advP s'):=h.on rfl rfl rfl rfl h.1
theorem Loc.rl {α:Type} {f:Ps→α × Ps} (hf:Loc f) {n:Nat} {s s':Ps} (h:Rl n s s') (hb:(f s).2.i < s.i+n):Rl (n - ((f s).2.i - s.i)) (f s).2 (f s').2:=by
 obtain ⟨_,h2,h3⟩:=hf.eq n s s' h hb
 have g1:=(hf.go s).i
 have g2:=(hf.go s').i
 exact h.on (hf.go s).T (hf.go s').T (by omega) (by omega) h2
theorem Loc.bind {α β:Type} {f:Ps→α × Ps} {g:α→Ps→β × Ps} (hf:Loc f) (hg:∀ a,Loc (g a)):Loc fun s=>g (f s).1 (f s).2 :=
 ⟨fun s=>(hf.go s).trans ((hg _).go _),fun n s s' h hb=>by
  have g1:=(hf.go s).i
  have g2:=((hg (f s).1).go (f s).2).i
  have hb1:(f s).2.i < s.i+n:=Nat.lt_of_le_of_lt g2 hb
  obtain ⟨v1,e1,i1⟩:=hf.eq n s s' h hb1
  have h2:=hf.rl h hb1
  obtain ⟨v2,e2,i2⟩:=(hg (f s).1).eq _ _ _ h2 (by omega)
  try simp only
  rw [v1]
  exact ⟨v2,e2,by omega⟩⟩
theorem Loc.map {α β:Type} {f:Ps→α × Ps} (hf:Loc f) (h:α→β):Loc fun s=>(h (f s).1,(f s).2) :=
 ⟨hf.go,fun n s s' hr hb=>by
  obtain ⟨v1,e1,i1⟩:=hf.eq n s s' hr hb
  exact ⟨congrArg h v1,e1,i1⟩⟩
theorem Loc.pure {α:Type} (a:α):Loc fun s=>(a,s):=⟨fun s=>Goes.refl s,fun n s s' h _=>⟨rfl,h.1,by simp only;omega⟩⟩
theorem fail_i (s:Ps) (e:Int):(failP s e).i=s.i:=by unfold failP;split<;>rfl
theorem fail_e (s:Ps) (e:Int):(failP s e).e=if s.e=0 then e else s.e:=by unfold failP;split<;>rfl
theorem Loc.fail {α:Type} (a:α) (e:Int) (he:e=51∨e=52):Loc fun s=>(a,failP s e) :=
 ⟨fun s=>goes_fail s e he,fun n s s' h _=>⟨rfl,by simp only;rw [fail_e,fail_e,h.1],by simp only;rw [fail_i,fail_i];omega⟩⟩
theorem Loc.is {α:Type} {f g:Ps→α × Ps} (x:Str) (hf:Loc f) (hg:Loc g):Loc fun s=>if isP s x=true then f (advP s) else g s :=
 ⟨fun s=>by
  try simp only
  split
  ·rename_i h;exact (goes_adv_is h).trans (hf.go _)
  ·exact hg.go s,fun n s s' h hb=>by
  try simp only at hb ⊢
  by_cases hx:isP s x=true
  ·rw [if_pos hx] at hb ⊢
   have gi:=(hf.go (advP s)).i
   have hn:0 < n:=by have:(advP s).i=s.i+1:=rfl;omega
   rw [if_pos (by rw [h.is hn];exact hx)]
   obtain ⟨v,e,i⟩:=hf.eq (n - 1) _ _ h.adv (by have:(advP s).i=s.i+1:=rfl;omega)
   refine ⟨v,e,?_⟩
   have i':(f (advP s')).2.i+(s.i+1)=(f (advP s)).2.i+(s'.i+1):=i
   omega
  ·rw [if_neg hx] at hb ⊢
   have gi:=(hg.go s).i
   have hn:0 < n:=by omega
   rw [if_neg (by rw [h.is hn];exact hx)]
   exact hg.eq n s s' h hb⟩
theorem Loc.see {α:Type} {f g:Ps→α × Ps} (x:Str) (hf:Loc f) (hg:Loc g):Loc fun s=>if isP s x=true then f s else g s :=
 ⟨fun s=>by
  try simp only
  split
  ·exact hf.go s
  ·exact hg.go s,fun n s s' h hb=>by
  try simp only at hb ⊢
  by_cases hx:isP s x=true
  ·rw [if_pos hx] at hb ⊢
   have gi:=(hf.go s).i
   rw [if_pos (by rw [h.is (by omega)];exact hx)]
   exact hf.eq n s s' h hb
  ·rw [if_neg hx] at hb ⊢
   have gi:=(hg.go s).i
   rw [if_neg (by rw [h.is (by omega)];exact hx)]
   exact hg.eq n s s' h hb⟩
theorem Loc.take {α:Type} (c:Int→Str→Int→Prop) [∀ a b d,Decidable (c a b d)] (hc:∀ a b d,c a b d→a≠0) {f:Tk→Ps→α × Ps} {g:Ps→α × Ps} (hf:∀ t,Loc (f t)) (hg:Loc g):Loc fun s=>if c (peekP s).k (peekP s).t (peekP s).n then f (tri (peekP s)) (advP s) else g s :=
 ⟨fun s=>by
  try simp only
  split
  ·rename_i h;exact (goes_adv (hc _ _ _ h)).trans ((hf _).go _)
  ·exact hg.go s,fun n s s' h hb=>by
  try simp only at hb ⊢
  by_cases hx:c (peekP s).k (peekP s).t (peekP s).n
  ·rw [if_pos hx] at hb ⊢
   have gi:=((hf (tri (peekP s))).go (advP s)).i
   have hn:0 < n:=by have:(advP s).i=s.i+1:=rfl;omega
   rw [if_pos (by rw [h.k hn,h.t hn,h.n hn];exact hx),h.peek hn]
   obtain ⟨v,e,i⟩:=(hf (tri (peekP s))).eq (n - 1) _ _ h.adv (by have:(advP s).i=s.i+1:=rfl;omega)
   refine ⟨v,e,?_⟩
   have i':(f (tri (peekP s)) (advP s')).2.i+(s.i+1)=(f (tri (peekP s)) (advP s)).2.i+(s'.i+1):=i
   omega
  ·rw [if_neg hx] at hb ⊢
   have gi:=(hg.go s).i
   have hn:0 < n:=by omega
   rw [if_neg (by rw [h.k hn,h.t hn,h.n hn];exact hx)]
   exact hg.eq n s s' h hb⟩
theorem loc_want (x:Str):Loc fun s=>((),wantP x s):=by
 have:(fun s=>((),wantP x s))=fun s=>if isP s x=true then (fun t=>((),t)) (advP s) else ((),failP s 51):=by
  funext s;unfold wantP;split<;>rfl
 rw [this]
 exact (Loc.pure ()).is x (Loc.fail () 51 (.inl rfl))
theorem goes_loopL {α:Type} {f:α→Ps→α × Ps} (hf:∀ a,Loc (f a)) (n:Nat) (a:α) (s:Ps):Goes s (listLoop f n a s).2:=goes_listLoop (fun a s=>(hf a).go s) n a s
theorem loop_eq {α:Type} {f:α→Ps→α × Ps} (hf:∀ a,Loc (f a)):∀ (fuel fuel':Nat) (a:α) (n:Nat) (s s':Ps),Rl n s s'→s.T.length < fuel+s.i→s'.T.length < fuel'+s'.i→(listLoop f fuel a s).2.i < s.i+n →
 (listLoop f fuel' a s').1=(listLoop f fuel a s).1∧(listLoop f fuel' a s').2.e=(listLoop f fuel a s).2.e∧(listLoop f fuel' a s').2.i+s.i=(listLoop f fuel a s).2.i+s'.i
 | fuel,fuel',a,n,s,s',h,hf1,hf2,hb=>by
  have hn:0 < n:=by have:=(goes_loopL hf fuel a s).i;omega
  by_cases hx:isP s [44]=true
  ·have hx':isP s' [44]=true:=by rw [h.is hn];exact hx
   have l1:=(isP_some hx).2
   have l2:=(isP_some hx').2
   match fuel,fuel',hf1,hf2,hb with
   | 0,_,hf1,_,_=>omega
   | _,0,_,hf2,_=>omega
   | fuel+1,fuel'+1,hf1,hf2,hb =>
    rw [list_more hx] at hb
    rw [list_more hx,list_more hx']
    have g0:=(goes_loopL hf fuel (f a (advP s)).1 (f a (advP s)).2).i
    have g1:=(hf a).go (advP s)
    have g2:=(hf a).go (advP s')
    have g1i:s.i+1≤(f a (advP s)).2.i:=g1.i
    have g2i:s'.i+1≤(f a (advP s')).2.i:=g2.i
    have hb1:(f a (advP s)).2.i < (advP s).i+(n - 1):=by have:(advP s).i=s.i+1:=rfl;omega
    obtain ⟨v,e,i⟩:=(hf a).eq (n - 1) _ _ h.adv hb1
    have hr:=(hf a).rl h.adv hb1
    have i':(f a (advP s')).2.i+(s.i+1)=(f a (advP s)).2.i+(s'.i+1):=i
    rw [v]
    have hT1:(f a (advP s)).2.T=s.T:=g1.T
    have hT2:(f a (advP s')).2.T=s'.T:=g2.T
    obtain ⟨q1,q2,q3⟩:=loop_eq hf fuel fuel' (f a (advP s)).1 _ _ _ hr (by rw [hT1];omega) (by rw [hT2];omega) (by have:(advP s).i=s.i+1:=rfl;omega)
    exact ⟨q1,q2,by omega⟩
  ·have hx0:isP s [44]=false:=by simpa using hx
   have hx':isP s' [44]=false:=by rw [h.is hn];exact hx0
   rw [list_end hx0,list_end hx']
   exact ⟨rfl,h.1,by simp only;omega⟩
theorem Loc.list {α:Type} {f:α→Ps→α × Ps} (hf:∀ a,Loc (f a)) (a:α):Loc (listP f a) :=
 ⟨goes_list (fun a s=>(hf a).go s) a,fun n s s' h hb=>by
  unfold listP at hb ⊢
  have g0:=(goes_loopL hf (s.T.length+1) (f a s).1 (f a s).2).i
  have g1:=(hf a).go s
  have g2:=(hf a).go s'
  have g1i:=g1.i
  have g2i:=g2.i
  have hb1:(f a s).2.i < s.i+n:=by omega
  obtain ⟨v,e,i⟩:=(hf a).eq n _ _ h hb1
  have hr:=(hf a).rl h hb1
  rw [v]
  obtain ⟨q1,q2,q3⟩:=loop_eq hf (s.T.length+1) (s'.T.length+1) (f a s).1 _ _ _ hr (by rw [g1.T];omega) (by rw [g2.T];omega) (by omega)
  exact ⟨q1,q2,by omega⟩⟩
theorem Rl.first {n:Nat} {s s':Ps} (h:Rl n s s') (hn:0 < n):∀ ops,firstOp ops s'=firstOp ops s
 | []=>rfl
 | o::r=>by unfold firstOp;rw [h.is hn,h.first hn r]
theorem chain_eq {f:PE} (hf:Loc f) (ops:List Str):∀ (fuel fuel':Nat) (x:Ex) (n:Nat) (s s':Ps),Rl n s s'→s.T.length < fuel+s.i→s'.T.length < fuel'+s'.i→(chainLoop f ops fuel x s).2.i < s.i+n →
 (chainLoop f ops fuel' x s').1=(chainLoop f ops fuel x s).1∧(chainLoop f ops fuel' x s').2.e=(chainLoop f ops fuel x s).2.e∧(chainLoop f ops fuel' x s').2.i+s.i=(chainLoop f ops fuel x s).2.i+s'.i
 | fuel,fuel',x,n,s,s',h,hf1,hf2,hb=>by
  have hn:0 < n:=by have:=(goes_chainLoop hf.go ops fuel x s).i;omega
  cases hx:firstOp ops s with
  | some k =>
   have hx':firstOp ops s'=some k:=by rw [h.first hn];exact hx
   obtain ⟨o,_,ho⟩:=firstOp_is hx
   obtain ⟨o',_,ho'⟩:=firstOp_is hx'
   have l1:=(isP_some ho).2
   have l2:=(isP_some ho').2
   match fuel,fuel',hf1,hf2,hb with
   | 0,_,hf1,_,_=>omega
   | _,0,_,hf2,_=>omega
   | fuel+1,fuel'+1,hf1,hf2,hb =>
    rw [chain_more hx] at hb
    rw [chain_more hx,chain_more hx']
    have g0:=(goes_chainLoop hf.go ops fuel (binaryE (ops.getD k []) x (f (advP s)).1) (f (advP s)).2).i
    have g1:=hf.go (advP s)
    have g2:=hf.go (advP s')
    have g1i:s.i+1≤(f (advP s)).2.i:=g1.i
    have g2i:s'.i+1≤(f (advP s')).2.i:=g2.i
    have hb1:(f (advP s)).2.i < (advP s).i+(n - 1):=by have:(advP s).i=s.i+1:=rfl;omega
    obtain ⟨v,e,i⟩:=hf.eq (n - 1) _ _ h.adv hb1
    have hr:=hf.rl h.adv hb1
    have i':(f (advP s')).2.i+(s.i+1)=(f (advP s)).2.i+(s'.i+1):=i
    rw [v]
    have hT1:(f (advP s)).2.T=s.T:=g1.T
    have hT2:(f (advP s')).2.T=s'.T:=g2.T
    obtain ⟨q1,q2,q3⟩:=chain_eq hf ops fuel fuel' (binaryE (ops.getD k []) x (f (advP s)).1) _ _ _ hr (by rw [hT1];omega) (by rw [hT2];omega) (by have:(advP s).i=s.i+1:=rfl;omega)
    exact ⟨q1,q2,by omega⟩
  | none =>
   have hx':firstOp ops s'=none:=by rw [h.first hn];exact hx
   rw [chain_end hx,chain_end hx']
   exact ⟨rfl,h.1,by simp only;omega⟩
theorem Loc.chain {f:PE} (hf:Loc f) (ops:List Str):Loc (chainP f ops) :=
 ⟨goes_chain hf.go ops,fun n s s' h hb=>by
  unfold chainP at hb ⊢
  have g0:=(goes_chainLoop hf.go ops (s.T.length+1) (f s).1 (f s).2).i
  have g1:=hf.go s
  have g2:=hf.go s'
  have g1i:=g1.i
  have g2i:=g2.i
  have hb1:(f s).2.i < s.i+n:=by omega
  obtain ⟨v,e,i⟩:=hf.eq n _ _ h hb1
  have hr:=hf.rl h hb1
  rw [v]
  obtain ⟨q1,q2,q3⟩:=chain_eq hf ops (s.T.length+1) (s'.T.length+1) (f s).1 _ _ _ hr (by rw [g1.T];omega) (by rw [g2.T];omega) (by omega)
  exact ⟨q1,q2,by omega⟩⟩
theorem Loc.compare {f:PE} (hf:Loc f):Loc (compareP f) :=
 ⟨goes_compare hf.go,fun n s s' h hb=>by
  have g1:=(hf.go s).i
  have gc:(f s).2.i≤(compareP f s).2.i:=by
   unfold compareP
   cases hx:firstOp cmpOps (f s).2 with
   | none=>exact Nat.le_refl _
   | some k =>
    try simp only
    have:(advP (f s).2).i≤(f (advP (f s).2)).2.i:=(hf.go _).i
    have e:(advP (f s).2).i=(f s).2.i+1:=rfl
    omega
  have hb1:(f s).2.i < s.i+n:=by omega
  obtain ⟨v,e,i⟩:=hf.eq n _ _ h hb1
  have hr:=hf.rl h hb1
  have hfo:=hr.first (by omega) cmpOps
  unfold compareP at hb ⊢
  rw [hfo]
  cases hx:firstOp cmpOps (f s).2 with
  | none=>exact ⟨v,e,i⟩
  | some k =>
   rw [hx] at hb
   try simp only at hb ⊢
   have gi:(f s).2.i+1≤(f (advP (f s).2)).2.i:=(hf.go (advP (f s).2)).i
   obtain ⟨v2,e2,i2⟩:=hf.eq _ _ _ hr.adv (by have:(advP (f s).2).i=(f s).2.i+1:=rfl;omega)
   have i2':(f (advP (f s').2)).2.i+((f s).2.i+1)=(f (advP (f s).2)).2.i+((f s').2.i+1):=i2
   exact ⟨by rw [v,v2],e2,by omega⟩⟩
theorem Loc.not {f g:PE} (hf:Loc f) (hg:Loc g):Loc (notP f g):=(hf.map (unaryE sNot)).is sNot hg
theorem Loc.minus {f g:PE} (hf:Loc f) (hg:Loc g):Loc (minusP f g):=by
 have e:minusP f g=fun s=>if isP s [45]=true then (fun s=>if (fun a (_:Str) (m:Int)=>a=2∧0 < m) (peekP s).k (peekP s).t (peekP s).n then (fun (t:Tk) u=>(constE ⟨1,-t.2.2,[]⟩,u)) (tri (peekP s)) (advP s) else (unaryE [45] (f s).1,(f s).2)) (advP s) else g s:=by
  funext s;rfl
 rw [e]
 exact (Loc.take (fun a (_:Str) (m:Int)=>a=2∧0 < m) (fun a _ m h=>by rw [h.1];decide) (f:=fun (t:Tk) u=>(constE ⟨1,-t.2.2,[]⟩,u)) (fun t=>Loc.pure _) (hf.map (unaryE [45]))).is [45] hg
theorem Loc.arg {f:PE} (hf:Loc f) (acc:List Ex):Loc (argP f acc):=hf.map fun x=>acc++[x]
theorem Loc.prim {f g:PE} (hf:Loc f) (hg:Loc g):Loc (primP f g):=by
 have e:primP f g=fun s =>
  if (fun a (_:Str) (_:Int)=>a=2) (peekP s).k (peekP s).t (peekP s).n then (fun (t:Tk) u=>(constE ⟨1,t.2.2,[]⟩,u)) (tri (peekP s)) (advP s)
  else (fun s=>if (fun a (_:Str) (_:Int)=>a=3) (peekP s).k (peekP s).t (peekP s).n then (fun (t:Tk) u=>(constE ⟨2,0,t.2.1⟩,u)) (tri (peekP s)) (advP s)
  else (fun s=>if isP s sNull=true then (fun u=>(constE zV,u)) (advP s)
  else (fun s=>if isP s [40]=true then g s
  else (fun s=>if (fun a (t:Str) (_:Int)=>¬ (a≠1∨t=sAnd∨t=sOr∨t=sNot)) (peekP s).k (peekP s).t (peekP s).n then
   (fun (t:Tk) u=>if isP u [40]=true then (fun u=>(callE t.2.1 (listP (argP f) [] u).1,wantP [41] (listP (argP f) [] u).2)) (advP u) else (columnE t.2.1,u)) (tri (peekP s)) (advP s)
  else (zEx,failP s 51)) s) s) s) s:=by
  funext s
  unfold primP
  simp only [tri,ite_not]
 rw [e]
 have hcall:∀ t:Tk,Loc fun u=>(callE t.2.1 (listP (argP f) [] u).1,wantP [41] (listP (argP f) [] u).2):=fun t =>
  (Loc.list (fun acc=>hf.arg acc) []).bind fun xs=>(loc_want [41]).map fun _=>callE t.2.1 xs
 exact Loc.take (fun a (_:Str) (_:Int)=>a=2) (fun a _ _ h=>by rw [h];decide) (f:=fun (t:Tk) u=>(constE ⟨1,t.2.2,[]⟩,u)) (fun t=>Loc.pure _)
  (Loc.take (fun a (_:Str) (_:Int)=>a=3) (fun a _ _ h=>by rw [h];decide) (f:=fun (t:Tk) u=>(constE ⟨2,0,t.2.1⟩,u)) (fun t=>Loc.pure _)
  ((Loc.pure (constE zV)).is sNull (Loc.see [40] hg
  (Loc.take (fun a (t:Str) (_:Int)=>¬ (a≠1∨t=sAnd∨t=sOr∨t=sNot)) (fun a t _ h e=>h (.inl (by rw [e];decide))) (f:=fun (t:Tk) u=>if isP u [40]=true then (fun u=>(callE t.2.1 (listP (argP f) [] u).1,wantP [41] (listP (argP f) [] u).2)) (advP u) else (columnE t.2.1,u)) (fun t=>(hcall t).is [40] (Loc.pure _)) (Loc.fail _ 51 (.inl rfl))))))
structure LocD (D:Dp):Prop where
 dor:Loc D.dor
 dnot:Loc D.dnot
 dminus:Loc D.dminus
 dparen:Loc D.dparen
section
variable {D:Dp} (h:LocD D)
include h
theorem LocD.pr:Loc (prL D):=h.dor.prim h.dparen
theorem LocD.mn:Loc (mnL D):=h.dminus.minus h.pr
theorem LocD.pd:Loc (pdL D):=h.mn.chain _
theorem LocD.sm:Loc (smL D):=h.pd.chain _
theorem LocD.cm:Loc (cmL D):=h.sm.compare
theorem LocD.nt:Loc (ntL D):=h.dnot.not h.cm
theorem LocD.an:Loc (anL D):=h.nt.chain _
theorem LocD.or:Loc (orL D):=h.an.chain _
end
end Go.Proofs.YtonkjhmkppeagaaGreatDoor.Pz
