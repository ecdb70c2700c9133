/- The plain law of definitions put together: two texts that are definitions are so together; errors are told at a token or at the end. No program in sight. The plain law of a definition's text that is cut off: it is read as no definition. No program in sight. The plain law of sources, assets and schedules as they may be written: what they are read as, and that nothing is read without the last ';'. No program in sight. -/
import Derived.Test.YtonkjhmkppeagaaGreatDoorWDf
import Derived.Test.YtonkjhmkppeagaaGreatDoorWQg
set_option linter.unusedVariables false
namespace Go.Proofs.YtonkjhmkppeagaaGreatDoor.Pz
open Go.Proofs.Tryz
open Go Go.RowKit Lx
end Go.Proofs.YtonkjhmkppeagaaGreatDoor.Pz
namespace Go.Proofs.YtonkjhmkppeagaaGreatDoor.Lx
open Go.Proofs.Tryz
open Go Go.RowKit Ba
end Go.Proofs.YtonkjhmkppeagaaGreatDoor.Lx
namespace Go.Proofs.YtonkjhmkppeagaaGreatDoor.Pz
open Go.Proofs.Tryz
open Go Go.RowKit Lx
theorem zja {d:Df} (ok:OkD d) {s:Ps} (a:At s (dfK0 d)):(defP s).2.e=51∧(defP s).2.a=s.E:=by
 have key:∀ s2,defK (oneP zal s).1 (oneP zal s).2=(d,s2)→At s2 []→s2.E=s.E→(defP s).2.e=51∧(defP s).2.a=s.E:=fun s2 h h2 hE=>by
  have e:(defP s).2=wantP [59] s2:=by unfold defP;rw[h]
  have hp:peekP s2=zTok:=h2.nilK;have hn:isP s2 [59]=false:=by rw[h2.is];rfl
  rw[e];unfold wantP;rw[if_neg (by rw[hn];decide)];unfold failP;rw[if_pos h2.1];refine ⟨rfl,?_⟩;have hT:s2.T[s2.i]?=none:=by
   have h3:=h2.2;have h4:(s2.T.drop s2.i).length=0:=by rw[← yC (f:=tri),h3];rfl
   rw[List.length_drop]at h4;exact List.getElem?_eq_none (by omega)
  simp only[hT];exact hE
 cases ok with
 | source n cs x hn h0 hc hs =>
  have h:At s ((1,zba,0)::(1,n,0)::(4,[40],0)::(joinK (cs.map colK2)++(4,[41],0)::(scK x++[]))):=by
   rw[List.append_nil];exact a
  obtain ⟨e1,h1⟩:=zdM (ws:=zal) (j:=0) (.inl rfl) h (by decide);have e2:=zf0 h0 (fun c hc'=>(hc c hc').2) hs h1;have h2:=At.app (a:=(1,n,0)::(4,[40],0)::(joinK (cs.map colK2)++(4,[41],0)::scK x)) (b:=[]) (s:=advP s) (by simpa only[List.cons_append,yM] using h1);have el:((1,n,0)::(4,[40],0)::(joinK (cs.map colK2)++(4,[41],0)::scK x):List Tk).length=1+(1+((joinK (cs.map colK2)).length+(1+(scK x).length))):=by
   simp only[yB,yA];omega
  rw[el]at h2;exact key _ (by rw[e1];exact e2) h2 rfl
 | asset n x ins p hn hs h0 hi hp hd =>
  have h:At s ((1,zbl,0)::(1,n,0)::(scK x++(1,sFrom,0)::(joinK (ins.map inK)++(1,sDo,0)::(tkQ p++[])))):=by
   rw[List.append_nil];exact a
  obtain ⟨e1,h1⟩:=zdM (ws:=zal) (j:=1) (.inl rfl) h (by decide);have e2:=zhr hs h0 hi hp hd (Sg.nil _) h1;have h2:=At.app (a:=(1,n,0)::(scK x++(1,sFrom,0)::(joinK (ins.map inK)++(1,sDo,0)::tkQ p))) (b:=[]) (s:=advP s) (by simpa only[List.cons_append,yM] using h1);have el:((1,n,0)::(scK x++(1,sFrom,0)::(joinK (ins.map inK)++(1,sDo,0)::tkQ p)):List Tk).length=1+((scK x).length+(1+((joinK (ins.map inK)).length+(1+(tkQ p).length)))):=by
   simp only[yB,yA];omega
  rw[el]at h2;exact key _ (by rw[e1];exact e2) h2 rfl
 | schedule n c ms hn hc h0 hm =>
  have h:At s ((1,zaG,0)::(1,n,0)::(3,c,0)::(1,za1,0)::(joinK (ms.map nameK)++[])):=by
   rw[List.append_nil];exact a
  obtain ⟨e1,h1⟩:=zdM (ws:=zal) (j:=2) (.inl rfl) h (by decide);have e2:=zeF h0 (rest:=[]) rfl h1;have h2:=At.app (a:=(1,n,0)::(3,c,0)::(1,za1,0)::joinK (ms.map nameK)) (b:=[]) (s:=advP s) (by simpa only[List.cons_append,yM] using h1);have el:((1,n,0)::(3,c,0)::(1,za1,0)::joinK (ms.map nameK):List Tk).length=1+(1+(1+(joinK (ms.map nameK)).length)):=by
   simp only[yB];omega
  rw[el]at h2;exact key _ (by rw[e1];exact e2) h2 rfl
theorem zsm {d:Df}:dfK0 d≠[]:=by
 unfold dfK0;split
 ·exact List.cons_ne_nil _ _
 ·split<;>exact List.cons_ne_nil _ _
theorem zjI {d:Df} (ok:OkD d) {l:Str} (h:RdT l (dfK0 d)) (hl:l.length≤16384):zaJ l=([],l.length,51):=by
 obtain ⟨ha,hn⟩:=ze9 h hl;obtain ⟨e1,e2⟩:=zja ok ha;have hlt:(openP l).e=0∧(openP l).i<(openP l).T.length:=⟨ha.1,by
  rw[hn];show 0<_
  cases hd:dfK0 d with
  | nil=>exact absurd hd zsm
  | cons a r=>exact Nat.succ_pos _⟩
 have hs:(defsP (openP l)).2=(defP (openP l)).2:=by
  have u:defsP (openP l)=za4 (openP l).T.length ([]++[(defP (openP l)).1]) (defP (openP l)).2:=by
   unfold defsP;rw[za4,if_pos hlt]
  rw[u,zfO (fun x=>by rw[e1]at x;exact absurd x.1 (by decide))]
 rw[zgR,hs,zoL (by rw[e1];decide),e1,e2];rfl
theorem wa_ws {c:UInt8} (hc:wsB c=true):WrA [c] []:=fun r ts hr=>hr.ws hc
theorem wr_ws {c:UInt8} (hc:wsB c=true) {t:Str} {k:List Tk} (h:WrT t k):WrT (c::t) k:=fun r ts hr hcl=>(h r ts hr hcl).ws hc
theorem ztK:WrA [44] [(4,[44],0)]:=zbs (x:=[44]) (by decide) (by decide) (by decide)
theorem ztJ:WrA [44,32] [(4,[44],0)]:=ztK.both (u:=[32]) (j:=[]) (wa_ws (by decide))
theorem zki {sep:Str} (hs:WrA sep [(4,[44],0)]) (hc:∀ r,Cl (sep++r)) {α:Type} {tx:α→Str} {tk:α→List Tk}:∀ (l:List α),(∀ x∈l,WrT (tx x) (tk x))→WrT (joinS sep (l.map tx)) (joinK (l.map tk))
 | [],h=>WrT.empty
 | [x],h=>h x (by simp)
 | x::y::l,h=>by
  have ih:=zki hs hc (y::l) (fun z hz=>h z (yJ _ hz));exact (h x (by simp)).app (u:=sep++joinS sep ((y::l).map tx)) (j:=(4,[44],0)::joinK ((y::l).map tk)) (hs.app ih) (fun r=>by rw[yM];exact hc _)
theorem zeR (sep:Str) (m:Nat):∀ (l:List Str),(∀ x∈l,x.length≤m)→(joinS sep l).length≤l.length*(m+sep.length)
 | [],h=>yS _
 | [x],h=>by
  have:=h x (by simp);show x.length≤1*_
  omega
 | x::y::l,h=>by
  have h1:=h x (by simp);have h2:=zeR sep m (y::l) (fun z hz=>h z (yJ _ hz));show (x++(sep++joinS sep (y::l))).length≤_
  rw[yA,yA,yB (a:=x),Nat.add_mul];omega
theorem zrP {t:Str} {d:Df} (ok:OkD d) (h:WrT t (dfK0 d)) (hl:t.length+1≤16384):zaJ (t++[59])=([d],t.length+1,0)∧zaJ t=([],t.length,51):=by
 constructor
 ·have h1:RdT (t++[59]) (defsK [d]):=by
   have:=h [59] [(4,[59],0)] (RdT.sign (x:=[59]) (by decide) (by decide) (by decide) RdT.nil) (zcN (by decide) (by decide));have e:defsK [d]=dfK0 d++[(4,[59],0)]:=by
    show (dfK d++[])=_
    rw[List.append_nil];rfl
   rw[e];exact this
  have:=zlA (ds:=[d]) (fun x hx=>by rw[List.mem_singleton]at hx;subst hx;exact ok) h1 (by rw[yA];exact hl);rw[this,yA];rfl
 ·have h1:RdT t (dfK0 d):=by
   have:=h [] [] RdT.nil Cl.nil;rw[List.append_nil,List.append_nil]at this;exact this
  exact zjI ok h1 (by omega)
theorem zem {k:Int} (h:1≤k∧k≤5):(wAt zaw k).length≤7∧(wAt zaf k).length≤6:=by
 have:k=1∨k=2∨k=3∨k=4∨k=5:=by omega
 rcases this with rfl|rfl|rfl|rfl|rfl<;>decide
def scT2 (s:Sc):Str:=wAt zaw s.k++(32::(Lib.itoa s.f++(32::46::46::32::Lib.itoa s.l)))
def inM (x:Inp):Str:=if x.k=2∨x.k=3 then 32::Lib.itoa x.n else []
def inT2 (x:Inp):Str:=x.a++(32::(wAt zaf x.k++(inM x++([32,97,115,32]++x.s))))
def distL (n:Str):Pl:=.mk 8 [] [scanL n] zEx [] [] [] [] [] 0
def assT0 (n:Str) (s:Sc) (ins:List Inp) (m:Str):Str:=zbl++(32::(n++(32::(scT2 s++(10::(sFrom++(32::(joinS [44,32] (ins.map inT2)++(10::(sDo++(32::(m++([32,124,32]++zaE)))))))))))))
theorem cl_ws {c:UInt8} (h:c=32∨c=10) (l:Str):Cl (c::l):=by rcases h with rfl|rfl<;>exact zcN (by decide) (by decide)
theorem zsA {s:Sc} (h:OkSc s):WrT (scT2 s) (scK s):=by
 refine wr_sp (k:=[(1,wAt zaw s.k,0)]) (zas (ziU h.1)) ?_;refine (zdP h.2.1.1 h.2.1.2).app (k:=[(2,[],s.f)]) (u:=32::46::46::32::Lib.itoa s.l) (j:=[(4,[46,46],0),(2,[],s.l)]) ?_ (fun r=>cl_ws (.inl rfl) _);refine zbE ?_;exact (zbs (x:=[46,46]) (by decide) (by decide) (by decide)).app (u:=32::Lib.itoa s.l) (zbE (zdP h.2.2.1 h.2.2.2))
theorem zsD {x:Inp} (h:OkIn x):WrT (inT2 x) (inK x):=by
 have hm:WrT (inM x) (inNK x):=by
  have:=(zqD h).1;unfold inN at this;unfold inM;by_cases hk:x.k=2∨x.k=3
  ·rw[if_pos hk]at this ⊢;exact zbE this
  ·rw[if_neg hk]at this ⊢;exact this
 have g2:WrT ([32,97,115,32]++x.s) [(1,sAs,0),(1,x.s,0)]:=zbE (wr_sp (t:=sAs) (k:=[(1,sAs,0)]) (zas kw_as) (zas h.2.1));have g1:WrT (inM x++([32,97,115,32]++x.s)) (inNK x++[(1,sAs,0),(1,x.s,0)]):=hm.app g2 (fun r=>cl_ws (.inl rfl) _);have hcl:∀ r,Cl ((inM x++([32,97,115,32]++x.s))++r):=fun r=>by
  unfold inM;split
  ·exact cl_ws (.inl rfl) _
  ·exact cl_ws (.inl rfl) _
 exact wr_sp (k:=[(1,x.a,0)]) (zas h.1) ((zas (zqP h.2.2.1)).app (k:=[(1,wAt zaf x.k,0)]) g1 hcl)
theorem znb {m:Str} (h:zao m):OkQ (distL m):=.dist _ (.scan m h)
theorem zli (m:Str):textQ (distL m)=m++([32,124,32]++zaE):=by
 unfold distL;rw[zbY _ _ _ _ _ _ _ _ _ (by decide),zdr];rfl
theorem zl6 (m:Str):deepQ (distL m)=0:=by
 unfold distL;rw[zbd _ _ _ _ _ _ _ _ _ (by decide),zdw]
theorem zsG {n:Str} {s:Sc} {ins:List Inp} {m:Str} (hn:zao n) (hs:OkSc s) (hi:∀ x∈ins,OkIn x) (hm:zao m):WrT (assT0 n s ins m) (dfK0 ⟨2,n,[],s,ins,distL m,[],[]⟩):=by
 have g6:WrT (m++([32,124,32]++zaE)) (tkQ (distL m)):=by
  have:=zmk _ (znb hm);rw[← zli];exact this
 have g5:=wr_ws (c:=10) (by decide) (wr_sp (zas kw_do) g6);have g4:=(zki ztJ (fun r=>zcN (by decide) (by decide)) ins (fun x hx=>zsD (hi x hx))).app g5 (fun r=>cl_ws (.inr rfl) _);have g3:=wr_ws (c:=10) (by decide) (wr_sp (zas znL) g4);have g2:=(zsA hs).app g3 (fun r=>cl_ws (.inr rfl) _);exact wr_sp (zas zkR) (wr_sp (zas hn) g2)
theorem zoH {n:Str} {s:Sc} {ins:List Inp} {m:Str} (hn:zao n) (hn16:n.length≤16) (hs:OkSc s) (h0:ins≠[]) (h20:ins.length≤20) (hi:∀ x∈ins,OkIn x∧x.a.length≤16∧x.s.length≤16) (hm:zao m) (hm16:m.length≤16) :
 zaJ (assT0 n s ins m++[59])=([⟨2,n,[],s,ins,distL m,[],[]⟩],(assT0 n s ins m).length+1,0)∧zaJ (assT0 n s ins m)=([],(assT0 n s ins m).length,51)∧(assT0 n s ins m).length≤4000:=by
 have hb:=zeR [44,32] 100 (ins.map inT2) (fun y hy=>by
  obtain ⟨x,hx,rfl⟩:=List.mem_map.1 hy;obtain ⟨ok,ha,hs⟩:=hi x hx;obtain ⟨_,_,hk,h2,h3,hz⟩:=ok;have hw:=(zem hk).2;have hmm:(inM x).length≤22:=by
   unfold inM;split
   ·rename_i hk2
    have:(Lib.itoa x.n).length≤21:=by
     rcases hk2 with e|e
     ·exact Lib.itoa_length_le _ (by have:=(h2 e).1;omega) (h2 e).2
     ·exact Lib.itoa_length_le _ (by have:=(h3 e).1;omega) (h3 e).2
    simp only[yB];omega
   ·exact yS _
  unfold inT2;simp only[yA,yB,List.length_nil];omega)
 have hsl:(scT2 s).length≤70:=by
  have h1:=Lib.itoa_length_le s.f (by have:=hs.2.1.1;omega) hs.2.1.2;have h2:=Lib.itoa_length_le s.l (by have:=hs.2.2.1;omega) hs.2.2.2;have h3:=(zem hs.1).1;unfold scT2;simp only[yA,yB];omega
 have hl:(assT0 n s ins m).length≤4000:=by
  unfold assT0;rw[yC]at hb;have hb':(joinS [44,32] (ins.map inT2)).length≤ins.length*102:=hb;simp only[yA,yB,List.length_nil,show zbl.length=5 from rfl,show sFrom.length=4 from rfl,show sDo.length=2 from rfl,show zaE.length=8 from rfl];omega
 have ok:OkD ⟨2,n,[],s,ins,distL m,[],[]⟩:=.asset n s ins (distL m) hn hs h0 (fun x hx=>(hi x hx).1) (znb hm) (by rw[zl6];omega);obtain ⟨a,b⟩:=zrP ok (zsG hn hs (fun x hx=>(hi x hx).1) hm) (by omega);exact ⟨a,b,hl⟩
