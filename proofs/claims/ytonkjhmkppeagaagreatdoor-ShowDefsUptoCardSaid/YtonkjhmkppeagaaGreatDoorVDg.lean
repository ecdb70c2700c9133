/- The plain law of definitions put together: two texts that are definitions are so together; errors are told at a token or at the end. No program in sight. The plain law of a definition's text that is cut off: it is read as no definition. No program in sight. The plain law of sources, assets and schedules as they may be written: what they are read as, and that nothing is read without the last ';'. No program in sight. -/
import Derived.Test.YtonkjhmkppeagaaGreatDoorVDf
import Derived.Test.YtonkjhmkppeagaaGreatDoorVQg
set_option linter.unusedVariables false
namespace Go.Proofs.YtonkjhmkppeagaaGreatDoor.Pz
open Go.Proofs.Tryz
open Go Go.RowKit Lx
theorem zrO {l:Str}:(zaJ l).2.2=(allP (defsP (openP l)).2).e:=by
 unfold zaJ;split
 ·rename_i h;exact h.symm
 ·rfl
theorem zm7 {l:Str} (h:(zaJ l).2.2=0):(zaJ l).1=(defsP (openP l)).1∧(defsP (openP l)).2.e=0∧¬ (defsP (openP l)).2.i<(defsP (openP l)).2.T.length:=by
 rw[zrO]at h;have hs:(defsP (openP l)).2.e=0:=by
  apply Classical.byContradiction;intro hn;rw[zdj hn]at h;exact hn h
 refine ⟨by unfold zaJ;rw[if_pos h],hs,fun hi=>?_⟩;rw[zd1 hs hi]at h;exact zoi _ _ (by decide) h
end Go.Proofs.YtonkjhmkppeagaaGreatDoor.Pz
namespace Go.Proofs.YtonkjhmkppeagaaGreatDoor.Lx
open Go.Proofs.Tryz
open Go Go.RowKit Ba
theorem zeH {f:UInt8→Bool} (y:List UInt8):∀ (l:List UInt8),runN f l<l.length→runN f (l++y)=runN f l
 | [],h=>absurd h (Nat.not_lt_zero _)
 | c::r,h=>by
  rw[List.cons_append,za8,za8];rw[za8]at h;by_cases hc:f c=true
  ·rw[if_pos hc]at h;rw[if_pos hc,if_pos hc,zeH y r (by simp only[yB]at h;omega)]
  ·rw[if_neg hc,if_neg hc]
theorem zrH (y:List UInt8):∀ (k:Nat) (l:List UInt8) (x:List UInt8×Nat),l.length≤k→rdQ l=some x→rdQ (l++y)=some x:=by
 intro k;induction k with
 | zero =>
  intro l x hl h;obtain rfl:=List.eq_nil_of_length_eq_zero (Nat.le_zero.1 hl);rw[zhF]at h;cases h
 | succ k ih =>
  intro l x hl h;match l,h with
  | [],h=>rw[zhF]at h;cases h
  | c::r,h =>
   simp only[yB]at hl;rw[zd5]at h;rw[List.cons_append,zd5];by_cases h1:c=34
   ·rw[if_pos h1]at h ⊢;exact h
   rw[if_neg h1]at h ⊢;by_cases h2:c.toNat<32∨126<c.toNat
   ·rw[if_pos h2]at h;cases h
   rw[if_neg h2]at h ⊢;by_cases h3:c=92
   ·rw[if_pos h3]at h ⊢;match r,h with
    | [],h=>cases h
    | d::r',h =>
     simp only[yB]at hl;rw[List.cons_append];simp only at h ⊢;by_cases h4:d=34∨d=92
     ·rw[if_pos h4]at h ⊢
      cases hq:rdQ r' with
      | none=>rw[hq]at h;cases h
      | some z=>rw[hq]at h;rw[ih r' z (by omega) hq];exact h
     ·rw[if_neg h4]at h;cases h
   ·rw[if_neg h3]at h ⊢
    cases hq:rdQ r with
    | none=>rw[hq]at h;cases h
    | some z=>rw[hq]at h;rw[ih r z (by omega) hq];exact h
theorem zpv (y:List UInt8) {l:List UInt8} {x:List UInt8×Nat} (h:qTok l=some x):qTok (l++y)=some x:=by
 unfold qTok at h ⊢
 cases hq:rdQ l with
 | none=>rw[hq]at h;cases h
 | some z=>rw[hq]at h;rw[zrH y l.length l z (yG _) hq];exact h
theorem zo3 {c:UInt8} {r:List UInt8} (y:List UInt8) {k:Int} {t:List UInt8} {n:Int} {m:Nat} (h:tok1 (c::r)=.ok k t n m) (hm:m<(c::r).length):tok1 (c::r++y)=.ok k t n m:=by
 rw[List.cons_append,zbt,show c::(r++y)=(c::r)++y from rfl];rw[zbt]at h;have l1:=zcZ wordB (c::r);have l2:=zcZ digB (c::r);have l3:=zin (c::r);by_cases h1:letB c=true
 ·rw[if_pos h1]at h ⊢;by_cases h2:runN wordB (c::r)>16
  ·rw[if_pos h2]at h;cases h
  ·rw[if_neg h2]at h;injection h with a1 a2 a3 a4
   rw[zeH y _ (by omega),if_neg h2,zhx l1,a1,a2,a3,a4]
 rw[if_neg h1]at h ⊢;by_cases h2:digB c=true
 ·rw[if_pos h2]at h ⊢;by_cases h3:c=48∧runN digB (c::r)>1
  ·rw[if_pos h3]at h;cases h
  rw[if_neg h3]at h;by_cases h4:decV 0 ((c::r).take (runN digB (c::r)))≤9223372036854775807
  ·rw[if_pos h4]at h;injection h with a1 a2 a3 a4
   rw[zeH y _ (by omega),if_neg h3,zhx l2,if_pos h4,a1,a2,a3,a4]
  ·rw[if_neg h4]at h;cases h
 rw[if_neg h2]at h ⊢;by_cases h3:c=34
 ·rw[if_pos h3]at h ⊢
  cases hq:qTok r with
  | none=>rw[hq]at h;cases h
  | some z=>rw[hq]at h;rw[zpv y hq];exact h
 rw[if_neg h3]at h ⊢;by_cases h4:signN (c::r)=0
 ·rw[if_pos h4]at h;cases h
 rw[if_neg h4]at h;injection h with a1 a2 a3 a4
 have hs:signN (c::r++y)=signN (c::r):=by
  cases r with
  | nil=>simp only[yB,yD]at hm l3;omega
  | cons b r=>rfl
 rw[hs,if_neg h4,zhx l3,a1,a2,a3,a4]
theorem zif (r:List UInt8):tok1 (59::r)=.ok 4 [59] 0 1:=by
 have hs:signN (59::r)=1:=by
  cases r with
  | nil=>rfl
  | cons b r =>
   show (if zcX 59 b=true then 2 else if (59:UInt8)∈zco then 1 else 0)=1
   have:zcX 59 b=false:=by
    unfold zcX;rw[yK];rintro (⟨e,_⟩|⟨e,_⟩|⟨e,_⟩|⟨e,_⟩)<;>revert e<;>decide
   rw[this,if_neg (by decide),if_pos (by decide)]
 rw[zbt,if_neg (by decide),if_neg (by decide),if_neg (by decide),hs,if_neg (by decide)];rfl
theorem zmE {c:UInt8} {r:List UInt8} {k n:Int} {m:Nat} (h:tok1 (c::r)=.ok k [59] n m) (hk:k=1∨k=4):c=59:=by
 rw[zbt]at h;by_cases h1:letB c=true
 ·rw[if_pos h1]at h;split at h
  ·cases h
  ·injection h with a1 a2 a3 a4
   rw[za8,if_pos (zhR h1),List.take_succ_cons]at a2;injection a2
 rw[if_neg h1]at h;by_cases h2:digB c=true
 ·rw[if_pos h2]at h;split at h
  ·cases h
  ·split at h
   ·injection h with a1 a2
    cases a2
   ·cases h
 rw[if_neg h2]at h;by_cases h3:c=34
 ·rw[if_pos h3]at h;split at h
  ·injection h with a1
   omega
  ·cases h
 rw[if_neg h3]at h;split at h
 ·cases h
 ·rename_i h4
  injection h with a1 a2
  obtain ⟨j,hj⟩:∃ j,signN (c::r)=j+1:=⟨signN (c::r)-1,by omega⟩;rw[hj,List.take_succ_cons]at a2;injection a2
theorem pre_e (a:List Tok) (x:List Tok×Nat×Int):(pre a x).2.2=x.2.2:=by
 unfold pre;split
 ·rename_i h;exact h.symm
 ·rfl
theorem zrY (y:List UInt8):∀ (k:Nat) (x:List UInt8) (p:Nat),x.length≤k→(lexL x p).2.2=0→(lexL (x++y) p).2.2=0→∀ (i:Nat) (t:Tok),(lexL x p).1[i]?=some t→t.t=[59]→(t.k=1∨t.k=4)→
 (lexL (x++y) p).1.take (i+1)=(lexL x p).1.take (i+1):=by
 intro k;induction k with
 | zero =>
  intro x p hl h1 h2 i t ht;obtain rfl:=List.eq_nil_of_length_eq_zero (Nat.le_zero.1 hl);rw[zc4]at ht;simp at ht
 | succ k ih =>
  intro x p hl h1 h2 i t ht h59 hk;match x,hl with
  | [],_=>rw[zc4]at ht;simp at ht
  | c::r,hl =>
   simp only[yB]at hl;rcases zdz c with hc|rfl|hc
   ·rw[List.cons_append,zgX hc]at h2 ⊢;rw[zgX hc]at h1 ht ⊢;exact ih r (p+1) (by omega) h1 h2 i t ht h59 hk
   ·rw[List.cons_append,zgj]at h2 ⊢;rw[zgj]at h1 ht ⊢;have hrl:=zcZ notNl r;by_cases hlt:runN notNl r<r.length
    ·rw[zeH y r hlt,List.drop_append_of_le_length hrl]at h2 ⊢;exact ih _ _ (by rw[List.length_drop];omega) h1 h2 i t ht h59 hk
    ·rw[List.drop_of_length_le (by omega),zc4]at ht;simp at ht
   ·cases h:tok1 (c::r) with
    | err e =>
     have hm:=zct.2 e h;rw[zhQ hc h]at h1;rcases hm with rfl|rfl<;>cases h1
    | ok kk tt n m =>
     obtain ⟨m1,m2⟩:=zct.1 kk tt n m h;rw[zgk hc h m1]at h1 ht ⊢;rw[pre_e]at h1;by_cases hlt:m<(c::r).length
     ·have h':=zo3 y h hlt;rw[List.cons_append]at h' h2 ⊢;rw[zgk hc h' m1]at h2 ⊢;rw[pre_e]at h2;rw[show c::(r++y)=(c::r)++y from rfl,List.drop_append_of_le_length (by omega)]at h2 ⊢;unfold pre at ht ⊢;rw[if_pos h1]at ht ⊢;rw[if_pos h2];simp only[List.cons_append,List.nil_append]at ht ⊢
      cases i with
      | zero=>rfl
      | succ i =>
       rw[List.getElem?_cons_succ]at ht;rw[List.take_succ_cons,List.take_succ_cons,ih _ _ (by rw[List.length_drop,yB];omega) h1 h2 i t ht h59 hk]
     ·have hd:(c::r).drop m=[]:=List.drop_of_length_le (by omega);rw[hd,zc4]at ht ⊢;unfold pre at ht ⊢;rw[if_pos rfl]at ht ⊢;simp only[List.append_nil]at ht ⊢
      cases i with
      | succ i=>rw[List.getElem?_cons_succ]at ht;simp at ht
      | zero =>
       obtain rfl:(⟨kk,tt,n,p⟩:Tok)=t:=by simpa using ht
       simp only at h59 hk;subst h59;obtain rfl:=zmE h hk;have e:=zif r;rw[h]at e;injection e with e1 e2 e3 e4
       subst e1 e3 e4;have e':=zif (r++y);rw[List.cons_append]at h2 ⊢;rw[zgk hc e' (yG _)]at h2 ⊢;rw[pre_e]at h2;unfold pre;rw[if_pos h2];rfl
end Go.Proofs.YtonkjhmkppeagaaGreatDoor.Lx
namespace Go.Proofs.YtonkjhmkppeagaaGreatDoor.Pz
open Go.Proofs.Tryz
open Go Go.RowKit Lx
theorem zja {d:Df} (ok:OkD d) {s:Ps} (a:At s (dfK0 d)):(defP s).2.e=51∧(defP s).2.a=s.E:=by
 have key:∀ s2,defK (oneP zal s).1 (oneP zal s).2=(d,s2)→At s2 []→s2.E=s.E→(defP s).2.e=51∧(defP s).2.a=s.E:=fun s2 h h2 hE=>by
  have e:(defP s).2=wantP [59] s2:=by unfold defP;rw[h]
  have hp:peekP s2=zTok:=h2.nilK;have hn:isP s2 [59]=false:=by rw[h2.is];rfl
  rw[e];unfold wantP;rw[if_neg (by rw[hn];decide)];unfold failP;rw[if_pos h2.1];refine ⟨rfl,?_⟩;have hT:s2.T[s2.i]?=none:=by
   have h3:=h2.2;have h4:(s2.T.drop s2.i).length=0:=by rw[← yC (f:=tri),h3];rfl
   rw[List.length_drop]at h4;exact List.getElem?_eq_none (by omega)
  simp only[hT];exact hE
 cases ok with
 | source n cs x hn h0 hc hs =>
  have h:At s ((1,zba,0)::(1,n,0)::(4,[40],0)::(joinK (cs.map colK2)++(4,[41],0)::(scK x++[]))):=by
   rw[List.append_nil];exact a
  obtain ⟨e1,h1⟩:=zdM (ws:=zal) (j:=0) (.inl rfl) h (by decide);have e2:=zf0 h0 (fun c hc'=>(hc c hc').2) hs h1;have h2:=At.app (a:=(1,n,0)::(4,[40],0)::(joinK (cs.map colK2)++(4,[41],0)::scK x)) (b:=[]) (s:=advP s) (by simpa only[List.cons_append,yM] using h1);have el:((1,n,0)::(4,[40],0)::(joinK (cs.map colK2)++(4,[41],0)::scK x):List Tk).length=1+(1+((joinK (cs.map colK2)).length+(1+(scK x).length))):=by
   simp only[yB,yA];omega
  rw[el]at h2;exact key _ (by rw[e1];exact e2) h2 rfl
 | asset n x ins p hn hs h0 hi hp hd =>
  have h:At s ((1,zbl,0)::(1,n,0)::(scK x++(1,sFrom,0)::(joinK (ins.map inK)++(1,sDo,0)::(tkQ p++[])))):=by
   rw[List.append_nil];exact a
  obtain ⟨e1,h1⟩:=zdM (ws:=zal) (j:=1) (.inl rfl) h (by decide);have e2:=zhr hs h0 hi hp hd (Sg.nil _) h1;have h2:=At.app (a:=(1,n,0)::(scK x++(1,sFrom,0)::(joinK (ins.map inK)++(1,sDo,0)::tkQ p))) (b:=[]) (s:=advP s) (by simpa only[List.cons_append,yM] using h1);have el:((1,n,0)::(scK x++(1,sFrom,0)::(joinK (ins.map inK)++(1,sDo,0)::tkQ p)):List Tk).length=1+((scK x).length+(1+((joinK (ins.map inK)).length+(1+(tkQ p).length)))):=by
   simp only[yB,yA];omega
  rw[el]at h2;exact key _ (by rw[e1];exact e2) h2 rfl
 | schedule n c ms hn hc h0 hm =>
  have h:At s ((1,zaG,0)::(1,n,0)::(3,c,0)::(1,za1,0)::(joinK (ms.map nameK)++[])):=by
   rw[List.append_nil];exact a
  obtain ⟨e1,h1⟩:=zdM (ws:=zal) (j:=2) (.inl rfl) h (by decide);have e2:=zeF h0 (rest:=[]) rfl h1;have h2:=At.app (a:=(1,n,0)::(3,c,0)::(1,za1,0)::joinK (ms.map nameK)) (b:=[]) (s:=advP s) (by simpa only[List.cons_append,yM] using h1);have el:((1,n,0)::(3,c,0)::(1,za1,0)::joinK (ms.map nameK):List Tk).length=1+(1+(1+(joinK (ms.map nameK)).length)):=by
   simp only[yB];omega
  rw[el]at h2;exact key _ (by rw[e1];exact e2) h2 rfl
theorem zm8 {d:Df} (ok:OkD d) {x y:Str} (hxy:x++y=dfT0 d) (hl:(dfT0 d).length≤16384) (h:(zaJ x).2.2=0):(zaJ x).1=[]:=by
 apply Classical.byContradiction;intro hne;obtain ⟨hd,hs,hi⟩:=zm7 h;have hrd:RdT (dfT0 d) (dfK0 d):=by
  have:=zsE ok [] [] RdT.nil Cl.nil;rw[List.append_nil,List.append_nil]at this;exact this
 have hxl:x.length≤(dfT0 d).length:=by rw[← hxy,yA];omega
 obtain ⟨ha,hn⟩:=ze9 hrd hl;have la:(lexS x).2.2=0:=(show (openP x).e=0 from (zgt (openP x)).back hs);have ex:lexS x=lexL x 0:=by unfold lexS;rw[if_neg (by omega)]
 have ey:lexS (dfT0 d)=lexL (x++y) 0:=by rw[hxy];unfold lexS;rw[if_neg (by omega)]
 have h2:(lexL (x++y) 0).2.2=0:=by rw[← ey];exact ha.1
 have hc:(openP x).e=0∧(openP x).i<(openP x).T.length:=by
  apply Classical.byContradiction;intro hn;have:defsP (openP x)=([],openP x):=zfO hn _;rw[hd,this]at hne;exact hne rfl
 have u:defsP (openP x)=za4 (openP x).T.length ([]++[(defP (openP x)).1]) (defP (openP x)).2:=by
  unfold defsP;rw[za4,if_pos hc]
 rw[u]at hs;have hz:(defP (openP x)).2.e=0:=(zb5 _ _ _).back hs;obtain ⟨w1,w2⟩:=ze5 (show (wantP [59] (defK (oneP zal (openP x)).1 (oneP zal (openP x)).2).2).e=0 from hz);have hT:(defK (oneP zal (openP x)).1 (oneP zal (openP x)).2).2.T=(openP x).T:=((zbW _ _).trans (zeW _ _)).T;have hdi:(defP (openP x)).2.i=(defK (oneP zal (openP x)).1 (oneP zal (openP x)).2).2.i+1:=by
  show (wantP [59] (defK (oneP zal (openP x)).1 (oneP zal (openP x)).2).2).i=_
  rw[w2];rfl
 generalize hz2:(defK (oneP zal (openP x)).1 (oneP zal (openP x)).2).2=z at w1 hT hdi;obtain ⟨p1,p2,p3⟩:=zbN (zeT w1);unfold isP at w1;rw[yL]at w1;rw[hT]at p3;have p3':(lexL x 0).1[z.i]?=some (peekP z):=by rw[← ex];exact p3
 have htk:=zrY y x.length x 0 (yG _) (by rw[← ex];exact la) h2 z.i (peekP z) p3' w1.2 w1.1;have hrl:Rl (z.i+1) (openP x) (openP (dfT0 d)):=by
  refine ⟨ha.1.trans hc.1.symm,fun j hj=>?_⟩;show ((lexS (dfT0 d)).1[0+j]?).map tri=((lexS x).1[0+j]?).map tri
  rw[ex,ey,Nat.zero_add];have:=congrArg (fun l=>l[j]?) htk;simp only[List.getElem?_take,if_pos hj]at this;rw[this]
 obtain ⟨_,v2,_⟩:=ztH hrl hz (by rw[hdi];show _≤0+_;omega);rw[(zja ok ha).1]at v2
 cases v2
theorem zeR (sep:Str) (m:Nat):∀ (l:List Str),(∀ x∈l,x.length≤m)→(joinS sep l).length≤l.length*(m+sep.length)
 | [],h=>yS _
 | [x],h=>by
  have:=h x (by simp);show x.length≤1*_
  omega
 | x::y::l,h=>by
  have h1:=h x (by simp);have h2:=zeR sep m (y::l) (fun z hz=>h z (yJ _ hz));show (x++(sep++joinS sep (y::l))).length≤_
  rw[yA,yA,yB (a:=x),Nat.add_mul];omega
theorem zem {k:Int} (h:1≤k∧k≤5):(wAt zaw k).length≤7∧(wAt zaf k).length≤6:=by
 have:k=1∨k=2∨k=3∨k=4∨k=5:=by omega
 rcases this with rfl|rfl|rfl|rfl|rfl<;>decide
def scT2 (s:Sc):Str:=wAt zaw s.k++(32::(Lib.itoa s.f++(32::46::46::32::Lib.itoa s.l)))
def inM (x:Inp):Str:=if x.k=2∨x.k=3 then 32::Lib.itoa x.n else []
def inT2 (x:Inp):Str:=x.a++(32::(wAt zaf x.k++(inM x++([32,97,115,32]++x.s))))
def distL (n:Str):Pl:=.mk 8 [] [scanL n] zEx [] [] [] [] [] 0
def assT0 (n:Str) (s:Sc) (ins:List Inp) (m:Str):Str:=zbl++(32::(n++(32::(scT2 s++(10::(sFrom++(32::(joinS [44,32] (ins.map inT2)++(10::(sDo++(32::(m++([32,124,32]++zaE)))))))))))))
theorem zj1 (c:Str):(Va.esc c).length≤2*c.length:=by
 induction c with
 | nil=>exact yG _
 | cons b r ih =>
  unfold Va.esc;rw[yA,yB];split<;>simp only[yB,yD]<;>omega
