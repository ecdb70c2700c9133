/- The plain law of the reader of expressions: what it does with tokens, step by step. No program in sight. The plain law of the reader: it goes on, never back; behind an error it stays; errors are told at a token or at the end. No program in sight. The plain law of the reader of queries and definitions: what it does with tokens, step by step. No program in sight. Worlds that change in some blocks alone; data that lie in memory: scalars, and slices of rows of data; rows that are gathered. No function of the program in sight. What the reader's memory holds: the reader, expressions, plans. -/
import Derived.Test.YtonkjhmkppeagaaGreatDoorWLexA
set_option linter.unusedVariables false
set_option linter.unusedSimpArgs false
namespace Go.Proofs.YtonkjhmkppeagaaGreatDoor.Pz
open Go.Proofs.Tryz
open Go Go.RowKit Lx
abbrev Str:=List UInt8
structure Vl where
 k:Int
 n:Int
 t:Str
 deriving DecidableEq
def zV:Vl:=⟨0,0,[]⟩
inductive Ex where
 | mk (k:Int) (nm:Str) (v:Vl) (op:Str) (xs:List Ex)
def Ex.k:Ex→Int|.mk k _ _ _ _=>k
def Ex.nm:Ex→Str|.mk _ n _ _ _=>n
def Ex.v:Ex→Vl|.mk _ _ v _ _=>v
def Ex.op:Ex→Str|.mk _ _ _ o _=>o
def Ex.xs:Ex→List Ex|.mk _ _ _ _ a=>a
def zEx:Ex:=.mk 0 [] zV [] []
def zat (op:Str) (a:Ex):Ex:=.mk 3 [] zV op [a]
def zaj (op:Str) (a b:Ex):Ex:=.mk 4 [] zV op [a,b]
def zam (v:Vl):Ex:=.mk 2 [] v [] []
def zax (n:Str):Ex:=.mk 1 n zV [] []
def callE (n:Str) (xs:List Ex):Ex:=.mk 5 n zV [] xs
structure Ps where
 T:List Tok
 E:Nat
 i:Nat
 e:Int
 a:Nat
def zTok:Tok:=⟨0,[],0,0⟩
def peekP (s:Ps):Tok:=if s.e=0 then s.T.getD s.i zTok else zTok
def failP (s:Ps) (e:Int):Ps:=if s.e=0 then { s with e:=e,a:=match s.T[s.i]? with|some t=>t.p|none=>s.E } else s
def advP (s:Ps):Ps:={ s with i:=s.i+1 }
def isP (s:Ps) (x:Str):Bool:=decide (((peekP s).k=1∨(peekP s).k=4)∧(peekP s).t=x)
def zdN (x:Str) (s:Ps):Ps:=if isP s x=true then advP s else s
def wantP (x:Str) (s:Ps):Ps:=if isP s x=true then advP s else failP s 51
def zae (k:Int) (s:Ps):Tok×Ps:=if (peekP s).k=k then (peekP s,advP s) else (zTok,failP s 51)
def nameP (s:Ps):Str×Ps:=((zae 1 s).1.t,(zae 1 s).2)
def zeq:Nat→List Str→Ps→Nat×Ps
 | _,[],s=>(0,failP s 51)
 | n,w::ws,s=>if isP s w=true then (n,advP s) else zeq (n+1) ws s
def oneP (ws:List Str) (s:Ps):Nat×Ps:=zeq 1 ws s
def zaQ {α:Type} (f:α→Ps→α×Ps):Nat→α→Ps→α×Ps
 | 0,a,s=>(a,s)
 | n+1,a,s=>if isP s [44]=true then zaQ f n (f a (advP s)).1 (f a (advP s)).2 else (a,s)
def listP {α:Type} (f:α→Ps→α×Ps) (a:α) (s:Ps):α×Ps:=zaQ f (s.T.length+1) (f a s).1 (f a s).2
abbrev PE:=Ps→Ex×Ps
def sOr:Str:=[111,114]
def sAnd:Str:=[97,110,100]
def sNot:Str:=[110,111,116]
def sNull:Str:=[110,117,108,108]
def zcr:List Str:=[[61],[33,61],[60],[60,61],[62],[62,61]]
def zbZ:List Str:=[[43],[45]]
def zbp:List Str:=[[42],[47],[37]]
def zaD:List Str→Ps→Option Nat
 | [],_=>none
 | o::r,s=>if isP s o=true then some 0 else (zaD r s).map (·+1)
def zaM (inner:PE) (ops:List Str):Nat→Ex→Ps→Ex×Ps
 | 0,x,s=>(x,s)
 | n+1,x,s=>match zaD ops s with
  | none=>(x,s)
  | some k=>zaM inner ops n (zaj (ops.getD k []) x (inner (advP s)).1) (inner (advP s)).2
def zaA (inner:PE) (ops:List Str):PE:=fun s=>zaM inner ops (s.T.length+1) (inner s).1 (inner s).2
def zbw (sum:PE):PE:=fun s=>match zaD zcr (sum s).2 with
 | none=>sum s
 | some k=>(zaj (zcr.getD k []) (sum s).1 (sum (advP (sum s).2)).1,(sum (advP (sum s).2)).2)
def notP (dnot comp:PE):PE:=fun s=>if isP s sNot=true then (zat sNot (dnot (advP s)).1,(dnot (advP s)).2) else comp s
def zca (dminus prim:PE):PE:=fun s =>
 if isP s [45]=true then
  (if (peekP (advP s)).k=2∧0<(peekP (advP s)).n then (zam ⟨1,-(peekP (advP s)).n,[]⟩,advP (advP s))
   else (zat [45] (dminus (advP s)).1,(dminus (advP s)).2))
 else prim s
def argP (dor:PE) (acc:List Ex) (s:Ps):List Ex×Ps:=(acc++[(dor s).1],(dor s).2)
def primP (dor dparen:PE):PE:=fun s =>
 if (peekP s).k=2 then (zam ⟨1,(peekP s).n,[]⟩,advP s)
 else if (peekP s).k=3 then (zam ⟨2,0,(peekP s).t⟩,advP s)
 else if isP s sNull=true then (zam zV,advP s)
 else if isP s [40]=true then dparen s
 else if (peekP s).k≠1∨(peekP s).t=sAnd∨(peekP s).t=sOr∨(peekP s).t=sNot then (zEx,failP s 51)
 else if isP (advP s) [40]=true then
  (callE (peekP s).t (listP (argP dor) [] (advP (advP s))).1,wantP [41] (listP (argP dor) [] (advP (advP s))).2)
 else (zax (peekP s).t,advP s)
def zb9 (or:PE):PE:=fun s=>((or (wantP [40] s)).1,wantP [41] (or (wantP [40] s)).2)
def zdR:PE:=fun s=>(zEx,failP s 52)
structure Dp where
 dor:PE
 dnot:PE
 dminus:PE
 dparen:PE
def prL (D:Dp):PE:=primP D.dor D.dparen
def mnL (D:Dp):PE:=zca D.dminus (prL D)
def pdL (D:Dp):PE:=zaA (mnL D) zbp
def smL (D:Dp):PE:=zaA (pdL D) zbZ
def cmL (D:Dp):PE:=zbw (smL D)
def ntL (D:Dp):PE:=notP D.dnot (cmL D)
def anL (D:Dp):PE:=zaA (ntL D) [sAnd]
def orL (D:Dp):PE:=zaA (anL D) [sOr]
def deepN:Nat→Dp
 | 0=>⟨zdR,zdR,zdR,zdR⟩
 | n+1=>⟨orL (deepN n),ntL (deepN n),mnL (deepN n),zb9 (orL (deepN n))⟩
def zak:PE:=(deepN 32).dor
def openP (l:Str):Ps:=⟨(lexS l).1,l.length,0,(lexS l).2.2,(lexS l).2.1⟩
def allP (s:Ps):Ps:=if s.e=0∧s.i<s.T.length then failP s 51 else s
structure Goes (s s':Ps):Prop where
 T:s'.T=s.T
 E:s'.E=s.E
 i:s.i≤s'.i
 le:s.i≤s.T.length→s'.i≤s.T.length
 er:s.e≠0→s'=s
 ok:s.e=0→s'.e=0∨(s'.e=51∨s'.e=52)∧(s'.a=s.E∨∃ t∈s.T,t.p=s'.a)
theorem Goes.refl (s:Ps):Goes s s:=⟨rfl,rfl,yG _,id,fun _=>rfl,fun h=>.inl h⟩
theorem Goes.trans {a b c:Ps} (h:Goes a b) (g:Goes b c):Goes a c:=by
 refine ⟨g.T.trans h.T,g.E.trans h.E,yH h.i g.i,fun x=>?_,fun x=>?_,fun x=>?_⟩
 ·have:=h.le x;have h2:=g.le (by rw[h.T];exact this);rw[h.T]at h2;exact h2
 ·have e:=h.er x;subst e;exact g.er x
 ·rcases h.ok x with y|y
  ·have:=g.ok y;rw[h.E,h.T]at this;exact this
  ·have hne:b.e≠0:=by rcases y.1 with y|y<;>rw[y]<;>decide
   rw[g.er hne];exact .inr y
theorem zkF {s:Ps} (h:s.e≠0):peekP s=zTok:=by unfold peekP;rw[if_neg h]
theorem zhI {s:Ps} (h:s.T.length≤s.i):peekP s=zTok:=by
 unfold peekP;split
 ·rw[List.getD_eq_getElem?_getD,List.getElem?_eq_none h];rfl
 ·rfl
theorem zjH {s:Ps} {t:Tok} (he:s.e=0) (h:s.T[s.i]?=some t):peekP s=t:=by
 unfold peekP;rw[if_pos he,List.getD_eq_getElem?_getD,h];rfl
theorem zbN {s:Ps} (h:(peekP s).k≠0):s.e=0∧s.i<s.T.length∧s.T[s.i]?=some (peekP s):=by
 have h1:s.e=0:=by
  apply Classical.byContradiction;intro hn;rw[zkF hn]at h;exact h rfl
 have h2:s.i<s.T.length:=by
  apply Classical.byContradiction;intro hn;rw[zhI (by omega)]at h;exact h rfl
 refine ⟨h1,h2,?_⟩;have h3:s.T[s.i]?=some (s.T[s.i]):=yF h2;rw[zjH h1 h3];exact h3
theorem zeT {s:Ps} {x:Str} (h:isP s x=true):(peekP s).k≠0:=by
 unfold isP at h;rw[yL]at h;rcases h.1 with h|h<;>rw[h]<;>decide
theorem zbU {s:Ps} {x:Str} (h:isP s x=true):s.e=0∧s.i<s.T.length:=⟨(zbN (zeT h)).1,(zbN (zeT h)).2.1⟩
theorem zdg {s:Ps} (h:(peekP s).k≠0):Goes s (advP s):=by
 obtain ⟨h1,h2,_⟩:=zbN h;exact ⟨rfl,rfl,Nat.le_succ _,fun _=>h2,fun x=>absurd h1 x,fun x=>.inl x⟩
theorem zaz {s:Ps} {x:Str} (h:isP s x=true):Goes s (advP s):=zdg (zeT h)
theorem zc9 (s:Ps) (e:Int) (he:e=51∨e=52):Goes s (failP s e):=by
 unfold failP;split
 ·rename_i h
  refine ⟨rfl,rfl,yG _,id,fun x=>absurd h x,fun _=>.inr ⟨he,?_⟩⟩;simp only
  cases ht:s.T[s.i]? with
  | none=>exact .inl rfl
  | some t=>exact .inr ⟨t,yP ht,rfl⟩
 ·exact Goes.refl s
theorem zha (x:Str) (s:Ps):Goes s (zdN x s):=by
 unfold zdN;split
 ·rename_i h;exact zaz h
 ·exact Goes.refl s
theorem zan (x:Str) (s:Ps):Goes s (wantP x s):=by
 unfold wantP;split
 ·rename_i h;exact zaz h
 ·exact zc9 s 51 (.inl rfl)
theorem zbh (k:Int) (hk:k≠0) (s:Ps):Goes s (zae k s).2:=by
 unfold zae;split
 ·rename_i h;exact zdg (by rw[h];exact hk)
 ·exact zc9 s 51 (.inl rfl)
theorem zaP (s:Ps):Goes s (nameP s).2:=zbh 1 (by decide) s
theorem zfp:∀ (ws:List Str) (n:Nat) (s:Ps),Goes s (zeq n ws s).2
 | [],n,s=>zc9 s 51 (.inl rfl)
 | w::ws,n,s=>by
  unfold zeq;split
  ·rename_i h;exact zaz h
  ·exact zfp ws (n+1) s
theorem zbW (ws:List Str) (s:Ps):Goes s (oneP ws s).2:=zfp ws 1 s
theorem zbH {α:Type} {f:α→Ps→α×Ps} (hf:∀ a s,Goes s (f a s).2):∀ (n:Nat) (a:α) (s:Ps),Goes s (zaQ f n a s).2
 | 0,a,s=>Goes.refl s
 | n+1,a,s=>by
  unfold zaQ;split
  ·rename_i h;exact ((zaz h).trans (hf a (advP s))).trans (zbH hf n _ _)
  ·exact Goes.refl s
theorem zbq {α:Type} {f:α→Ps→α×Ps} (hf:∀ a s,Goes s (f a s).2) (a:α) (s:Ps):Goes s (listP f a s).2 :=
 (hf a s).trans (zbH hf _ _ _)
theorem zdG {α:Type} {f:α→Ps→α×Ps} {n:Nat} {a:α} {s:Ps} (h:isP s [44]=false):zaQ f n a s=(a,s):=by
 cases n with
 | zero=>rfl
 | succ n=>unfold zaQ;rw[if_neg (by rw[h];decide)]
theorem zcI {α:Type} {f:α→Ps→α×Ps} {n:Nat} {a:α} {s:Ps} (h:isP s [44]=true):zaQ f (n+1) a s=zaQ f n (f a (advP s)).1 (f a (advP s)).2:=by
 conv=>lhs;unfold zaQ
 rw[if_pos h]
def GoesE (f:PE):Prop:=∀ s,Goes s (f s).2
theorem zbA:∀ {ops:List Str} {s:Ps} {k:Nat},zaD ops s=some k→∃ o,ops[k]?=some o∧isP s o=true
 | o::r,s,k,h=>by
  unfold zaD at h;split at h
  ·rename_i hi
   obtain rfl:0=k:=by simpa using h
   exact ⟨o,rfl,hi⟩
  ·cases hr:zaD r s with
   | none=>rw[hr]at h;cases h
   | some j =>
    rw[hr]at h;obtain rfl:j+1=k:=by simpa using h
    obtain ⟨o',h1,h2⟩:=zbA hr;exact ⟨o',by simpa using h1,h2⟩
theorem zby {f:PE} (hf:GoesE f) (ops:List Str):∀ (n:Nat) (x:Ex) (s:Ps),Goes s (zaM f ops n x s).2
 | 0,x,s=>Goes.refl s
 | n+1,x,s=>by
  unfold zaM
  cases h:zaD ops s with
  | none=>exact Goes.refl s
  | some k =>
   obtain ⟨o,_,h2⟩:=zbA h;exact ((zaz h2).trans (hf (advP s))).trans (zby hf ops n _ _)
theorem zdu {f:PE} (hf:GoesE f) (ops:List Str):GoesE (zaA f ops):=fun s=>(hf s).trans (zby hf ops _ _ _)
theorem zdx {f:PE} {ops:List Str} {n:Nat} {x:Ex} {s:Ps} (h:zaD ops s=none):zaM f ops n x s=(x,s):=by
 cases n with
 | zero=>rfl
 | succ n=>unfold zaM;rw[h]
theorem zcV {f:PE} {ops:List Str} {n k:Nat} {x:Ex} {s:Ps} (h:zaD ops s=some k):zaM f ops (n+1) x s=zaM f ops n (zaj (ops.getD k []) x (f (advP s)).1) (f (advP s)).2:=by
 conv=>lhs;unfold zaM
 rw[h]
theorem zfr {f:PE} (hf:GoesE f):GoesE (zbw f):=fun s=>by
 unfold zbw
 cases h:zaD zcr (f s).2 with
 | none=>exact hf s
 | some k =>
  obtain ⟨o,_,h2⟩:=zbA h;exact ((hf s).trans (zaz h2)).trans (hf _)
theorem zqa {f g:PE} (hf:GoesE f) (hg:GoesE g):GoesE (notP f g):=fun s=>by
 unfold notP;split
 ·rename_i h;exact (zaz h).trans (hf _)
 ·exact hg s
theorem zlX {f g:PE} (hf:GoesE f) (hg:GoesE g):GoesE (zca f g):=fun s=>by
 unfold zca;split
 ·rename_i h
  split
  ·rename_i h2
   exact (zaz h).trans (zdg (by rw[h2.1];decide))
  ·exact (zaz h).trans (hf _)
 ·exact hg s
theorem zfM {f:PE} (hf:GoesE f) (acc:List Ex) (s:Ps):Goes s (argP f acc s).2:=hf s
theorem zn6 {f g:PE} (hf:GoesE f) (hg:GoesE g):GoesE (primP f g):=fun s=>by
 unfold primP;split
 ·rename_i h;exact zdg (by rw[h];decide)
 split
 ·rename_i h;exact zdg (by rw[h];decide)
 split
 ·rename_i h;exact zaz h
 split
 ·exact hg s
 split
 ·exact zc9 s 51 (.inl rfl)
 rename_i h1
 have hk:(peekP s).k=1:=Classical.byContradiction fun hn=>h1 (.inl hn)
 have ha:Goes s (advP s):=zdg (by rw[hk];decide);split
 ·rename_i h2
  exact ((ha.trans (zaz h2)).trans (zbq (zfM hf) _ _)).trans (zan _ _)
 ·exact ha
theorem zlW {f:PE} (hf:GoesE f):GoesE (zb9 f):=fun s=>((zan _ _).trans (hf _)).trans (zan _ _)
theorem zeX:GoesE zdR:=fun s=>zc9 s 52 (.inr rfl)
structure GoesD (D:Dp):Prop where
 dor:GoesE D.dor
 dnot:GoesE D.dnot
 dminus:GoesE D.dminus
 dparen:GoesE D.dparen
section
variable {D:Dp} (h:GoesD D)
include h
theorem GoesD.pr:GoesE (prL D):=zn6 h.dor h.dparen
theorem GoesD.mn:GoesE (mnL D):=zlX h.dminus h.pr
theorem GoesD.pd:GoesE (pdL D):=zdu h.mn _
theorem GoesD.sm:GoesE (smL D):=zdu h.pd _
theorem GoesD.cm:GoesE (cmL D):=zfr h.sm
theorem GoesD.nt:GoesE (ntL D):=zqa h.dnot h.cm
theorem GoesD.an:GoesE (anL D):=zdu h.nt _
theorem GoesD.or:GoesE (orL D):=zdu h.an _
end
theorem zci:∀ n,GoesD (deepN n)
 | 0=>⟨zeX,zeX,zeX,zeX⟩
 | n+1=>⟨(zci n).or,(zci n).nt,(zci n).mn,zlW (zci n).or⟩
theorem zdt:GoesE zak:=(zci 32).dor
inductive Pl where
 | mk (k:Int) (nm:Str) (xs:List Pl) (cond:Ex) (names:List Str) (exprs:List Ex) (on:List (Str×Str)) (aggs:List (Str×Str×Str)) (ord:List (Str×Bool)) (cnt:Int)
def zPl:Pl:=.mk 0 [] [] zEx [] [] [] [] [] 0
def scanL (n:Str):Pl:=.mk 1 n [] zEx [] [] [] [] [] 0
abbrev PQ:=Ps→Pl×Ps
def zbK:Str:=[119,104,101,114,101]
def sKeep:Str:=[107,101,101,112]
def sJoin:Str:=[106,111,105,110]
def sLeft:Str:=[108,101,102,116]
def zbM:Str:=[103,114,111,117,112]
def zbL:Str:=[117,110,105,111,110]
def zaE:Str:=[100,105,115,116,105,110,99,116]
def zbu:Str:=[102,105,114,115,116]
def zaq:List Str:=[zbK,sKeep,sJoin,sLeft,zbM,zbL,zaE,zbu]
def sAs:Str:=[97,115]
def sOn:Str:=[111,110]
def sBy:Str:=[98,121]
def sDown:Str:=[100,111,119,110]
def zdS:Str:=[99,111,117,110,116]
def sSum:Str:=[115,117,109]
def sMin:Str:=[109,105,110]
def sMax:Str:=[109,97,120]
def zag:List Str:=[zdS,sSum,sMin,sMax]
def zaL (s:Ps):List Str×Ps:=listP (fun a s=>(a++[(nameP s).1],(nameP s).2)) [] s
def zay (a:List Ex×List Str) (s:Ps):(List Ex×List Str)×Ps :=
 ((a.1++[(zak s).1],a.2++[(nameP (wantP sAs (zak s).2)).1]),(nameP (wantP sAs (zak s).2)).2)
def zaU (a:List (Str×Str)) (s:Ps):List (Str×Str)×Ps :=
 (a++[((nameP s).1,(nameP (wantP [61] (nameP s).2)).1)],(nameP (wantP [61] (nameP s).2)).2)
def aggOp (i:Nat):Str:=if i=0 then [] else zag.getD (i-1) []
def zbi (s:Ps):Str×Ps:=if isP s [41]=true then ([],s) else nameP s
def zah (a:List (Str×Str×Str)) (s:Ps):List (Str×Str×Str)×Ps :=
 (a++[(aggOp (oneP zag s).1,(zbi (wantP [40] (oneP zag s).2)).1,(nameP (wantP sAs (wantP [41] (zbi (wantP [40] (oneP zag s).2)).2))).1)],
  (nameP (wantP sAs (wantP [41] (zbi (wantP [40] (oneP zag s).2)).2))).2)
def zaW (a:List (Str×Bool)) (s:Ps):List (Str×Bool)×Ps :=
 (a++[((nameP s).1,isP (nameP s).2 sDown)],zdN sDown (nameP s).2)
def partP (dp:PQ):PQ:=fun s=>if isP s [40]=true then dp s else (scanL (nameP s).1,(nameP s).2)
def joinP (dp:PQ) (s:Ps):(Pl×List (Str×Str))×Ps :=
 (((partP dp s).1,(listP zaU [] (wantP sOn (partP dp s).2)).1),(listP zaU [] (wantP sOn (partP dp s).2)).2)
def zav (s:Ps):List Str×Ps:=if isP s [58]=true then ([],s) else zaL s
def zaO (s:Ps):List (Str×Str×Str)×Ps:=if (peekP s).k=1 then listP zah [] s else ([],s)
def za2 (s:Ps):(List Str×List (Str×Str×Str))×Ps :=
 (((zav s).1,(zaO (wantP [58] (zav s).2)).1),(zaO (wantP [58] (zav s).2)).2)
def za5 (s:Ps):List (Str×Bool)×Ps:=if isP s sBy=true then listP zaW [] (advP s) else ([],s)
def zck (s:Ps):(Int×List (Str×Bool))×Ps:=(((zae 2 s).1.n,(za5 (zae 2 s).2).1),(za5 (zae 2 s).2).2)
def stepK (dp:PQ) (over:Pl) (i:Nat) (s:Ps):Pl×Ps :=
 if i=1 then (.mk 2 [] [over] (zak s).1 [] [] [] [] [] 0,(zak s).2)
 else if i=2 then (.mk 3 [] [over] zEx (listP zay ([],[]) s).1.2 (listP zay ([],[]) s).1.1 [] [] [] 0,(listP zay ([],[]) s).2)
 else if i=3 then (.mk 4 [] [over,(joinP dp s).1.1] zEx [] [] (joinP dp s).1.2 [] [] 0,(joinP dp s).2)
 else if i=4 then (.mk 5 [] [over,(joinP dp s).1.1] zEx [] [] (joinP dp s).1.2 [] [] 0,(joinP dp s).2)
 else if i=5 then (.mk 6 [] [over] zEx (za2 s).1.1 [] [] (za2 s).1.2 [] 0,(za2 s).2)
 else if i=6 then (.mk 7 [] [over,(partP dp s).1] zEx [] [] [] [] [] 0,(partP dp s).2)
 else if i=7 then (.mk 8 [] [over] zEx [] [] [] [] [] 0,s)
 else if i=8 then (.mk 9 [] [over] zEx [] [] [] [] (zck s).1.2 (zck s).1.1,(zck s).2)
 else (.mk 0 [] [over] zEx [] [] [] [] [] 0,s)
def stepP (dp:PQ) (over:Pl):PQ:=fun s=>stepK dp over (oneP zaq s).1 (oneP zaq s).2
def zaI (dp:PQ):Nat→Pl→Ps→Pl×Ps
 | 0,q,s=>(q,s)
 | n+1,q,s=>if isP s [124]=true then zaI dp n (stepP dp q (advP s)).1 (stepP dp q (advP s)).2 else (q,s)
def za6 (dp:PQ):PQ:=fun s=>zaI dp (s.T.length+1) (partP dp s).1 (partP dp s).2
def zdL (q:PQ):PQ:=fun s=>((q (wantP [40] s)).1,wantP [41] (q (wantP [40] s)).2)
def zkm:PQ:=fun s=>(zPl,failP s 52)
def dparN:Nat→PQ
 | 0=>zkm
 | n+1=>zdL (za6 (dparN n))
def topQ:PQ:=za6 (dparN 31)
def zdn (l:Str):Pl×Nat×Int :=
 if (allP (topQ (openP l)).2).e=0 then ((topQ (openP l)).1,l.length,0) else (zPl,(allP (topQ (openP l)).2).a,(allP (topQ (openP l)).2).e)
structure Sc where
 k:Int
 f:Int
 l:Int
structure Inp where
 a:Str
 k:Int
 n:Int
 s:Str
structure Df where
 k:Int
 nm:Str
 sch:List (Str×Int)
 sc:Sc
 ins:List Inp
 plan:Pl
 cron:Str
 mks:List Str
def zSc:Sc:=⟨0,0,0⟩
def zDf:Df:=⟨0,[],[],zSc,[],zPl,[],[]⟩
def zmJ:Str:=[104,111,117,114,108,121]
def zqK:Str:=[100,97,105,108,121]
def zmH:Str:=[119,101,101,107,108,121]
def zkr:Str:=[109,111,110,116,104,108,121]
def zmI:Str:=[115,116,97,116,105,99]
def zaw:List Str:=[zmJ,zqK,zmH,zkr,zmI]
def sSame:Str:=[115,97,109,101]
def sLast:Str:=[108,97,115,116]
def zqJ:Str:=[115,104,105,102,116]
def zmG:Str:=[119,105,116,104,105,110]
def sAll:Str:=[97,108,108]
def zaf:List Str:=[sSame,sLast,zqJ,zmG,sAll]
def zba:Str:=[115,111,117,114,99,101]
def zbl:Str:=[97,115,115,101,116]
def zaG:Str:=[115,99,104,101,100,117,108,101]
def zal:List Str:=[zba,zbl,zaG]
def sInt:Str:=[105,110,116]
def sText:Str:=[116,101,120,116]
def sFrom:Str:=[102,114,111,109]
def sDo:Str:=[100,111]
def za1:Str:=[109,97,107,101,115]
def zaS (s:Ps):Sc×Ps :=
 (⟨((oneP zaw s).1:Int),(zae 2 (oneP zaw s).2).1.n,(zae 2 (wantP [46,46] (zae 2 (oneP zaw s).2).2)).1.n⟩,(zae 2 (wantP [46,46] (zae 2 (oneP zaw s).2).2)).2)
def zbe (a:List (Str×Int)) (s:Ps):List (Str×Int)×Ps :=
 (a++[((nameP s).1,((oneP [sInt,sText] (nameP s).2).1:Int))],(oneP [sInt,sText] (nameP s).2).2)
def zbz (s:Ps):Df×Ps :=
 let r:=listP zbe [] (wantP [40] (nameP s).2)
 (⟨1,(nameP s).1,r.1,(zaS (wantP [41] r.2)).1,[],zPl,[],[]⟩,(zaS (wantP [41] r.2)).2)
def mapK (i:Nat) (s:Ps):Int×Ps :=
 if i=2 then ((zae 2 s).1.n,(zae 2 s).2)
 else if i=3 then (if isP s [45]=true then (-(zae 2 (advP s)).1.n,(zae 2 (advP s)).2) else ((zae 2 s).1.n,(zae 2 s).2))
 else (0,s)
def zab (s:Ps):(Int×Int)×Ps:=((((oneP zaf s).1:Int),(mapK (oneP zaf s).1 (oneP zaf s).2).1),(mapK (oneP zaf s).1 (oneP zaf s).2).2)
def zbQ (a:List Inp) (s:Ps):List Inp×Ps :=
 let m:=zab (nameP s).2
 let n:=nameP (wantP sAs m.2)
 (a++[⟨(nameP s).1,m.1.1,m.1.2,n.1⟩],n.2)
def zcl (s:Ps):Df×Ps :=
 let c:=zaS (nameP s).2
 let l:=listP zbQ [] (wantP sFrom c.2)
 let q:=topQ (wantP sDo l.2)
 (⟨2,(nameP s).1,[],c.1,l.1,q.1,[],[]⟩,q.2)
def za3 (s:Ps):Df×Ps :=
 let c:=zae 3 (nameP s).2
 let m:=zaL (wantP za1 c.2)
 (⟨3,(nameP s).1,[],zSc,[],zPl,c.1.t,m.1⟩,m.2)
def defK (i:Nat) (s:Ps):Df×Ps:=if i=1 then zbz s else if i=2 then zcl s else if i=3 then za3 s else (zDf,s)
def defP (s:Ps):Df×Ps:=((defK (oneP zal s).1 (oneP zal s).2).1,wantP [59] (defK (oneP zal s).1 (oneP zal s).2).2)
def za4:Nat→List Df→Ps→List Df×Ps
 | 0,a,s=>(a,s)
 | n+1,a,s=>if s.e=0∧s.i<s.T.length then za4 n (a++[(defP s).1]) (defP s).2 else (a,s)
def defsP (s:Ps):List Df×Ps:=za4 (s.T.length+1) [] s
def zaJ (l:Str):List Df×Nat×Int :=
 if (allP (defsP (openP l)).2).e=0 then ((defsP (openP l)).1,l.length,0) else ([],(allP (defsP (openP l)).2).a,(allP (defsP (openP l)).2).e)
theorem zfg (s:Ps):Goes s (zaL s).2:=zbq (f:=fun a s=>(a++[(nameP s).1],(nameP s).2)) (fun a s=>zaP s) [] s
theorem zcS (a:List Ex×List Str) (s:Ps):Goes s (zay a s).2:=((zdt s).trans (zan _ _)).trans (zaP _)
theorem zb4 (a:List (Str×Str)) (s:Ps):Goes s (zaU a s).2:=((zaP s).trans (zan _ _)).trans (zaP _)
theorem zes (s:Ps):Goes s (zbi s).2:=by
 unfold zbi;split
 ·exact Goes.refl s
 ·exact zaP s
theorem zaV (a:List (Str×Str×Str)) (s:Ps):Goes s (zah a s).2 :=
 (((((zbW _ s).trans (zan _ _)).trans (zes _)).trans (zan _ _)).trans (zan _ _)).trans (zaP _)
theorem zcC (a:List (Str×Bool)) (s:Ps):Goes s (zaW a s).2:=(zaP s).trans (zha _ _)
def GoesQ (f:PQ):Prop:=∀ s,Goes s (f s).2
theorem zcK {dp:PQ} (h:GoesQ dp):GoesQ (partP dp):=fun s=>by
 unfold partP;split
 ·exact h s
 ·exact zaP s
theorem zi3 {dp:PQ} (h:GoesQ dp) (s:Ps):Goes s (joinP dp s).2:=((zcK h s).trans (zan _ _)).trans (zbq zb4 _ _)
theorem zdW (s:Ps):Goes s (zav s).2:=by
 unfold zav;split
 ·exact Goes.refl s
 ·exact zfg s
theorem zei (s:Ps):Goes s (zaO s).2:=by
 unfold zaO;split
 ·exact zbq zaV _ _
 ·exact Goes.refl s
theorem zlY (s:Ps):Goes s (za2 s).2:=((zdW s).trans (zan _ _)).trans (zei _)
theorem zfq (s:Ps):Goes s (za5 s).2:=by
 unfold za5;split
 ·rename_i h;exact (zaz h).trans (zbq zcC _ _)
 ·exact Goes.refl s
theorem zlZ (s:Ps):Goes s (zck s).2:=(zbh 2 (by decide) s).trans (zfq _)
theorem zg9 {dp:PQ} (h:GoesQ dp) (q:Pl) (i:Nat) (s:Ps):Goes s (stepK dp q i s).2:=by
 unfold stepK;split;exact zdt s
 split;exact zbq zcS _ _
 split;exact zi3 h s
 split;exact zi3 h s
 split;exact zlY s
 split;exact zcK h s
 split;exact Goes.refl s
 split;exact zlZ s
 exact Goes.refl s
theorem zgs {dp:PQ} (h:GoesQ dp) (q:Pl):GoesQ (stepP dp q):=fun s=>(zbW _ s).trans (zg9 h q _ _)
theorem zbm {dp:PQ} (h:GoesQ dp):∀ (n:Nat) (q:Pl) (s:Ps),Goes s (zaI dp n q s).2
 | 0,q,s=>Goes.refl s
 | n+1,q,s=>by
  unfold zaI;split
  ·rename_i hi;exact ((zaz hi).trans (zgs h q _)).trans (zbm h n _ _)
  ·exact Goes.refl s
theorem zea {dp:PQ} (h:GoesQ dp):GoesQ (za6 dp):=fun s=>(zcK h s).trans (zbm h _ _ _)
theorem zjX {q:PQ} (h:GoesQ q):GoesQ (zdL q):=fun s=>((zan _ _).trans (h _)).trans (zan _ _)
theorem zbo:∀ n,GoesQ (dparN n)
 | 0=>fun s=>zc9 s 52 (.inr rfl)
 | n+1=>zjX (zea (zbo n))
theorem zeV:GoesQ topQ:=zea (zbo 31)
theorem zc0 {dp:PQ} {n:Nat} {q:Pl} {s:Ps} (h:isP s [124]=false):zaI dp n q s=(q,s):=by
 cases n with
 | zero=>rfl
 | succ n=>unfold zaI;rw[if_neg (by rw[h];decide)]
theorem zcx {dp:PQ} {n:Nat} {q:Pl} {s:Ps} (h:isP s [124]=true):zaI dp (n+1) q s=zaI dp n (stepP dp q (advP s)).1 (stepP dp q (advP s)).2:=by
 conv=>lhs;unfold zaI
 rw[if_pos h]
theorem zc8 (s:Ps):Goes s (zaS s).2:=(((zbW _ s).trans (zbh 2 (by decide) _)).trans (zan _ _)).trans (zbh 2 (by decide) _)
theorem zcj (a:List (Str×Int)) (s:Ps):Goes s (zbe a s).2:=(zaP s).trans (zbW _ _)
theorem zjW (s:Ps):Goes s (zbz s).2:=((((zaP s).trans (zan _ _)).trans (zbq zcj _ _)).trans (zan _ _)).trans (zc8 _)
theorem zi2 (i:Nat) (s:Ps):Goes s (mapK i s).2:=by
 unfold mapK;split;exact zbh 2 (by decide) s
 split
 ·split
  ·rename_i h;exact (zaz h).trans (zbh 2 (by decide) _)
  ·exact zbh 2 (by decide) s
 ·exact Goes.refl s
theorem zdV (s:Ps):Goes s (zab s).2:=(zbW _ s).trans (zi2 _ _)
theorem zcy (a:List Inp) (s:Ps):Goes s (zbQ a s).2:=(((zaP s).trans (zdV _)).trans (zan _ _)).trans (zaP _)
theorem zl0 (s:Ps):Goes s (zcl s).2:=(((((zaP s).trans (zc8 _)).trans (zan _ _)).trans (zbq zcy _ _)).trans (zan _ _)).trans (zeV _)
theorem zhW (s:Ps):Goes s (za3 s).2:=(((zaP s).trans (zbh 3 (by decide) _)).trans (zan _ _)).trans (zfg _)
theorem zeW (i:Nat) (s:Ps):Goes s (defK i s).2:=by
 unfold defK;split;exact zjW s
 split;exact zl0 s
 split;exact zhW s
 exact Goes.refl s
theorem zhX (s:Ps):Goes s (defP s).2:=((zbW _ s).trans (zeW _ _)).trans (zan _ _)
theorem zb5:∀ (n:Nat) (a:List Df) (s:Ps),Goes s (za4 n a s).2
 | 0,a,s=>Goes.refl s
 | n+1,a,s=>by
  unfold za4;split
  ·exact (zhX s).trans (zb5 n _ _)
  ·exact Goes.refl s
end Go.Proofs.YtonkjhmkppeagaaGreatDoor.Pz
namespace Go.Proofs.YtonkjhmkppeagaaGreatDoor.Pz
open Go.Proofs.Tryz
open Go.RowKit Go Ba
structure Kept (S:Nat→Prop) (w w':World):Prop where
 os:w'.os=w.os
 tape:w'.tape=w.tape
 output:w'.output=w.output
 size:w.heap.size≤w'.heap.size
 block:∀ k,k<w.heap.size→¬ S k→w'.heap[k]?=w.heap[k]?
theorem Kept.refl (S:Nat→Prop) (w:World):Kept S w w:=⟨rfl,rfl,rfl,yG _,fun _ _ _=>rfl⟩
theorem Kept.trans {S:Nat→Prop} {a b c:World} (h:Kept S a b) (g:Kept S b c):Kept S a c :=
 ⟨g.os.trans h.os,g.tape.trans h.tape,g.output.trans h.output,yH h.size g.size,fun k hk hS=>(g.block k (Nat.lt_of_lt_of_le hk h.size) hS).trans (h.block k hk hS)⟩
theorem Kept.mono {S S':Nat→Prop} {a b:World} (h:Kept S a b) (hS:∀ k,k<a.heap.size→S k→S' k):Kept S' a b :=
 ⟨h.os,h.tape,h.output,h.size,fun k hk hn=>h.block k hk fun x=>hn (hS k hk x)⟩
theorem Kept.then {S S':Nat→Prop} {a b c:World} (h:Kept S a b) (g:Kept S' b c) (hS:∀ k,k<a.heap.size→S' k→S k):Kept S a c :=
 ⟨g.os.trans h.os,g.tape.trans h.tape,g.output.trans h.output,yH h.size g.size,fun k hk hn=>(g.block k (Nat.lt_of_lt_of_le hk h.size) fun x=>hn (hS k hk x)).trans (h.block k hk hn)⟩
theorem Kept.of_below {S:Nat→Prop} {a b:World} (h:Below a.heap.size a b):Kept S a b:=⟨h.os,h.tape,h.output,h.size,fun k hk _=>h.block k hk⟩
theorem Kept.below {S:Nat→Prop} {a b:World} {B:Nat} (h:Kept S a b) (hB:B≤a.heap.size) (hS:∀ k,S k→B≤k):Below B a b :=
 ⟨h.os,h.tape,h.output,h.size,fun k hk=>h.block k (Nat.lt_of_lt_of_le hk hB) fun x=>by have:=hS k x;omega⟩
theorem Kept.behind {S:Nat→Prop} {a b c:World} (h:Kept S a b) (g:Below b.heap.size b c):Kept S a c:=h.trans (Kept.of_below g)
theorem Kept.drewN {S:Nat→Prop} {a b:World} (h:Kept S a b) (n:Nat):Kept S a (b.drewN n):=⟨h.os,h.tape,h.output,h.size,h.block⟩
theorem Kept.drew {S:Nat→Prop} {a b:World} (h:Kept S a b):Kept S a b.drew:=⟨h.os,h.tape,h.output,h.size,h.block⟩
theorem Kept.alloc {S:Nat→Prop} {a b:World} (h:Kept S a b) (o:Obj):Kept S a (b.alloc o) :=
 ⟨h.os,h.tape,h.output,by have:=h.size;simp;omega,fun k hk hn=>(Below.heap_alloc b o k (Nat.lt_of_lt_of_le hk h.size)).trans (h.block k hk hn)⟩
theorem Kept.set {S:Nat→Prop} {a b:World} (h:Kept S a b) (p:Addr) (hp:S p.block∨a.heap.size≤p.block) (v:Value):Kept S a (b.setCell p v) :=
 ⟨h.os,h.tape,h.output,by rw[World.size_setCell];exact h.size,fun k hk hn=>(Below.heap_setCell _ _ _ _ (by rintro rfl;rcases hp with hp|hp;exact hn hp;omega)).trans (h.block k hk hn)⟩
theorem Kept.grown {S:Nat→Prop} {a b c:World} (h:Kept S a b) {row:Option Nat} (g:b.grownBy c row) (hp:∀ k,row=some k→S k∨a.heap.size≤k):Kept S a c :=
 ⟨g.os.trans h.os,g.tape.trans h.tape,g.output.trans h.output,yH h.size g.size,fun k hk hn=>(g.block k (Nat.lt_of_lt_of_le hk h.size) fun e=>by rcases hp k e.symm with x|x;exact hn x;omega).trans (h.block k hk hn)⟩
theorem kcell {S:Nat→Prop} {a b:World} (h:Kept S a b) {k o:Nat} (hk:k<a.heap.size) (hn:¬ S k):b.cell? ⟨k,o,none⟩=a.cell? ⟨k,o,none⟩:=by
 unfold World.cell?;simp only[h.block k hk hn]
theorem zce {S:Nat→Prop} {a b:World} (h:Kept S a b) {k o:Nat} (hk:k<a.heap.size) (hn:¬ S k):b.frozen? ⟨k,o,none⟩=a.frozen? ⟨k,o,none⟩:=by
 unfold World.frozen?;simp only[h.block k hk hn]
theorem _root_.Go.Proofs.YtonkjhmkppeagaaGreatDoor.Ba.Box.kept {S:Nat→Prop} {W W':World} {B:Nat} {vs:List Value} (h:Box W B vs) (g:Kept S W W') (hn:¬ S B):Box W' B vs :=
 ⟨Nat.lt_of_lt_of_le h.lt g.size,fun i v hi=>(kcell g h.lt hn).trans (h.cl i v hi),fun i hi=>(zce g h.lt hn).trans (h.fr i hi)⟩
theorem _root_.Go.Proofs.YtonkjhmkppeagaaGreatDoor.Ba.Box.drew {W:World} {B:Nat} {vs:List Value} (h:Box W B vs):Box W.drew B vs:=⟨h.lt,h.cl,h.fr⟩
theorem _root_.Go.Proofs.YtonkjhmkppeagaaGreatDoor.Ba.Box.drewN {W:World} {B:Nat} {vs:List Value} (h:Box W B vs) (n:Nat):Box (W.drewN n) B vs:=⟨h.lt,h.cl,h.fr⟩
theorem zfl {B:Nat} {a W:World} (h:Below B a W):Below B a W.drew:=⟨h.os,h.tape,h.output,h.size,h.block⟩
theorem zbS {B:Nat} {a W:World} (h:Below B a W) {C:Nat} (hC:B≤C) (o:Nat) (v:Value):Below B a (W.setCell ⟨C,o,none⟩ v):=h.setCell hC v
def setN (W:World) (B:Nat):Nat→List Value→World
 | _,[]=>W
 | i,v::r=>setN (W.setCell ⟨B,i,none⟩ v) B (i+1) r
theorem Box.setAt {B:Nat}:∀ (vs ps us:List Value) (W:World),Box W B (ps++us)→us.length=vs.length→Box (setN W B ps.length vs) B (ps++vs)
 | [],ps,us,W,h,e=>by
  have:us=[]:=List.eq_nil_of_length_eq_zero e;subst this;exact h
 | v::vs,ps,us,W,h,e=>by
  match us,e with
  | u::us,e =>
   have h1:=h.put ps.length v;have e1:(ps++u::us).set ps.length v=(ps++[v])++us:=by
    rw[List.set_append_right _ _ (yG _),Nat.sub_self,List.set_cons_zero,yM];rfl
   rw[e1]at h1;have h2:=Box.setAt vs (ps++[v]) us _ h1 (by simpa using e);rw[yA,yM]at h2;exact h2
theorem _root_.Go.Proofs.YtonkjhmkppeagaaGreatDoor.Ba.Box.setN {B:Nat} {vs us:List Value} {W:World} (h:Box W B us) (e:us.length=vs.length):Box (setN W B 0 vs) B vs:=Box.setAt vs [] us W h e
theorem _root_.Go.Proofs.YtonkjhmkppeagaaGreatDoor.Ba.Box.otherN {B C:Nat} {us:List Value} (hB:C≠B) (vs:List Value):∀ (i:Nat) {W:World},Box W B us→Box (Pz.setN W C i vs) B us:=by
 induction vs with
 | nil=>intro i W h;exact h
 | cons v vs ih=>intro i W h;exact ih (i+1) (h.other hB i v)
theorem Kept.setN {S:Nat→Prop} {a:World} {B:Nat} (hp:S B∨a.heap.size≤B):∀ (vs:List Value) (i:Nat) {b:World},Kept S a b→Kept S a (setN b B i vs)
 | [],i,b,h=>h
 | v::vs,i,b,h=>Kept.setN hp vs (i+1) (h.set ⟨B,i,none⟩ hp v)
theorem zcW (B:Nat):∀ (vs:List Value) (i:Nat) (W:World),(setN W B i vs).heap.size=W.heap.size
 | [],i,W=>rfl
 | v::vs,i,W=>by show (setN _ B (i+1) vs).heap.size=_;rw[zcW B vs,World.size_setCell]
inductive Dat where
 | v (x:Value)
 | sl (k:Nat) (rows:List (List Dat))
inductive Rep (W:World) (ok:Nat→Prop):Dat→Value→Prop
 | v (x:Value) (h:x.oneCell'=true):Rep W ok (.v x) x
 | sl (k:Nat) (rows:List (List Dat)) (ao:Option Addr) (cap:Nat) (cells:List (List Value)) (h1:rows.length≤cap) (h2:cap≤maxLen) (hl:cells.length=rows.length)
  (hn:∀ (i:Nat) (r:List Dat) (cs:List Value),rows[i]?=some r→cells[i]?=some cs→r.length=k∧cs.length=k)
  (hc:∀ (i:Nat) (cs:List Value),cells[i]?=some cs→∃ b o,ao=some ⟨b,o,none⟩∧b<W.heap.size∧ok b∧∀ j,j<k→W.cell? ⟨b,o+(i*k+j),none⟩=cs[j]?)
  (hr:∀ (i:Nat) (r:List Dat) (cs:List Value) (j:Nat) (d:Dat) (c:Value),rows[i]?=some r→cells[i]?=some cs→r[j]?=some d→cs[j]?=some c→Rep W ok d c):Rep W ok (.sl k rows) (.slice ao rows.length cap)
def Row (W:World) (ok:Nat→Prop) (ds:List Dat) (cs:List Value):Prop:=ds.length=cs.length∧∀ (j:Nat) (d:Dat) (c:Value),ds[j]?=some d→cs[j]?=some c→Rep W ok d c
theorem Rep.kept {S ok:Nat→Prop} {W W':World} (g:Kept S W W') (hS:∀ b,b<W.heap.size→ok b→¬ S b) {d:Dat} {c:Value} (h:Rep W ok d c):Rep W' ok d c:=by
 induction h with
 | v x h=>exact .v x h
 | sl k rows ao cap cells h1 h2 hl hn hc hr ih =>
  refine .sl k rows ao cap cells h1 h2 hl hn (fun i cs hi=>?_) ih;obtain ⟨b,o,e1,e2,e3,e4⟩:=hc i cs hi;exact ⟨b,o,e1,Nat.lt_of_lt_of_le e2 g.size,e3,fun j hj=>(kcell g e2 (hS b e2 e3)).trans (e4 j hj)⟩
theorem Rep.weak {ok ok':Nat→Prop} {W:World} (hS:∀ b,b<W.heap.size→ok b→ok' b) {d:Dat} {c:Value} (h:Rep W ok d c):Rep W ok' d c:=by
 induction h with
 | v x h=>exact .v x h
 | sl k rows ao cap cells h1 h2 hl hn hc hr ih =>
  refine .sl k rows ao cap cells h1 h2 hl hn (fun i cs hi=>?_) ih;obtain ⟨b,o,e1,e2,e3,e4⟩:=hc i cs hi;exact ⟨b,o,e1,e2,hS b e2 e3,e4⟩
theorem Rep.both {S ok ok':Nat→Prop} {W W':World} (g:Kept S W W') (hS:∀ b,b<W.heap.size→ok b→¬ S b) (h2:∀ b,b<W.heap.size→ok b→ok' b) {d:Dat} {c:Value} (h:Rep W ok d c):Rep W' ok' d c :=
 ((h.weak (ok':=fun b=>ok b∧b<W.heap.size) fun b hb ho=>⟨ho,hb⟩).kept g fun b hb ho=>hS b hb ho.1).weak fun b hb ho=>h2 b ho.2 ho.1
theorem Rep.one {ok:Nat→Prop} {W:World} {d:Dat} {c:Value} (h:Rep W ok d c):c.oneCell'=true:=by
 cases h with
 | v x h=>exact h
 | sl=>rfl
theorem Rep.nil (W:World) (ok:Nat→Prop) (k:Nat):Rep W ok (.sl k []) (.slice none 0 0) :=
 .sl k [] none 0 [] (yG _) (yS _) rfl (fun i r cs h=>by simp at h) (fun i cs h=>by simp at h) (fun i r cs j d c h=>by simp at h)
theorem Rep.val {ok:Nat→Prop} {W:World} {x c:Value} (h:Rep W ok (.v x) c):c=x:=by cases h;rfl
theorem Rep.len {ok:Nat→Prop} {W:World} {k:Nat} {rows:List (List Dat)} {c:Value} (h:Rep W ok (.sl k rows) c):∃ ao cap,c=.slice ao rows.length cap∧rows.length≤cap∧cap≤maxLen:=by
 cases h with
 | sl _ _ ao cap cells h1 h2=>exact ⟨ao,cap,rfl,h1,h2⟩
theorem Rep.at {ok:Nat→Prop} {W:World} {k:Nat} {rows:List (List Dat)} {ao:Option Addr} {n cap i:Nat} {r:List Dat} (h:Rep W ok (.sl k rows) (.slice ao n cap)) (hi:rows[i]?=some r) :
 ∃ b o cs,ao=some ⟨b,o,none⟩∧b<W.heap.size∧ok b∧(∀ j,j<k→W.cell? ⟨b,o+(i*k+j),none⟩=cs[j]?)∧cs.length=k∧Row W ok r cs:=by
 cases h with
 | sl _ _ _ _ cells h1 h2 hl hn hc hr =>
  have hlt:=(yE.1 hi).1;have hs:cells[i]?=some (cells[i]'(by omega)):=yF (by omega);obtain ⟨b,o,e1,e2,e3,e4⟩:=hc i _ hs;obtain ⟨n1,n2⟩:=hn i r _ hi hs;exact ⟨b,o,_,e1,e2,e3,e4,n2,n1.trans n2.symm,fun j d c hd hc'=>hr i r _ j d c hi hs hd hc'⟩
theorem Row.kept {S ok:Nat→Prop} {W W':World} (g:Kept S W W') (hS:∀ b,b<W.heap.size→ok b→¬ S b) {ds:List Dat} {cs:List Value} (h:Row W ok ds cs):Row W' ok ds cs:=⟨h.1,fun j d c hd hc=>(h.2 j d c hd hc).kept g hS⟩
theorem Row.weak {ok ok':Nat→Prop} {W:World} (hS:∀ b,b<W.heap.size→ok b→ok' b) {ds:List Dat} {cs:List Value} (h:Row W ok ds cs):Row W ok' ds cs:=⟨h.1,fun j d c hd hc=>(h.2 j d c hd hc).weak hS⟩
theorem Row.both {S ok ok':Nat→Prop} {W W':World} (g:Kept S W W') (hS:∀ b,b<W.heap.size→ok b→¬ S b) (h2:∀ b,b<W.heap.size→ok b→ok' b) {ds:List Dat} {cs:List Value} (h:Row W ok ds cs):Row W' ok' ds cs :=
 ⟨h.1,fun j d c hd hc=>(h.2 j d c hd hc).both g hS h2⟩
theorem Row.one {ok:Nat→Prop} {W:World} {ds:List Dat} {cs:List Value} (h:Row W ok ds cs):∀ u∈cs,u.oneCell'=true:=fun u hu=>by
 obtain ⟨j,hj⟩:=List.mem_iff_getElem?.1 hu;have hlt:=(yE.1 hj).1;have hd:ds[j]?=some (ds[j]'(by rw[h.1];exact hlt)):=yF _;exact (h.2 j _ u hd hj).one
theorem Row.nil (W:World) (ok:Nat→Prop):Row W ok [] []:=⟨rfl,fun j d c h=>by simp at h⟩
theorem Row.cons {ok:Nat→Prop} {W:World} {d:Dat} {c:Value} {ds:List Dat} {cs:List Value} (h:Rep W ok d c) (t:Row W ok ds cs):Row W ok (d::ds) (c::cs) :=
 ⟨by rw[yB,yB,t.1],fun j d' c' hd hc=>by
  cases j with
  | zero =>
   simp only[List.getElem?_cons_zero,Option.some.injEq]at hd hc;subst hd hc;exact h
  | succ j =>
   rw[List.getElem?_cons_succ]at hd hc;exact t.2 j d' c' hd hc⟩
theorem Row.uncons {ok:Nat→Prop} {W:World} {d:Dat} {ds:List Dat} {cs:List Value} (h:Row W ok (d::ds) cs):∃ c r,cs=c::r∧Rep W ok d c∧Row W ok ds r:=by
 match cs,h with
 | [],h=>cases h.1
 | c::r,h=>exact ⟨c,r,rfl,h.2 0 d c rfl rfl,by have:=h.1;simpa using this,fun j d' c' hd hc=>h.2 (j+1) d' c' (by simpa using hd) (by simpa using hc)⟩
theorem Row.unnil {ok:Nat→Prop} {W:World} {cs:List Value} (h:Row W ok [] cs):cs=[]:=List.eq_nil_of_length_eq_zero h.1.symm
theorem Row.app {ok:Nat→Prop} {W:World} {ds es:List Dat} {cs fs:List Value} (h:Row W ok ds cs) (g:Row W ok es fs):Row W ok (ds++es) (cs++fs):=by
 induction ds generalizing cs with
 | nil=>have:=h.unnil;subst this;exact g
 | cons d ds ih =>
  obtain ⟨c,r,rfl,h1,h2⟩:=h.uncons;exact (ih h2).cons h1
structure Own (W:World) (base:Nat) (e:TypeId) (k:Nat) (v:Value) (rows:List (List Dat)) (cells:List (List Value)):Prop where
 own:W.ownsRow base e k v rows.length cells.flatten
 len:cells.length=rows.length
 row:∀ (i:Nat) (r:List Dat) (cs:List Value),rows[i]?=some r→cells[i]?=some cs→r.length=k∧Row W (fun b=>base≤b∧v.ownBlock≠some b) r cs
theorem Own.nil (W:World) (base:Nat) (e:TypeId) (k:Nat):Own W base e k (.slice none 0 0) [] []:=⟨World.ownsRow_nil _ _ _ _,rfl,fun i r cs h=>by simp at h⟩
theorem Own.cs {W:World} {base:Nat} {e:TypeId} {k:Nat} {v:Value} {rows:List (List Dat)} {cells:List (List Value)} (h:Own W base e k v rows cells):∀ x∈cells,x.length=k:=fun x hx=>by
 obtain ⟨i,hi⟩:=List.mem_iff_getElem?.1 hx;have hlt:=(yE.1 hi).1;have hr:rows[i]?=some (rows[i]'(by rw[← h.len];exact hlt)):=yF _;obtain ⟨h1,h2⟩:=h.row i _ x hr hi;rw[← h2.1];exact h1
theorem Own.lt {W:World} {base:Nat} {e:TypeId} {k:Nat} {v:Value} {rows:List (List Dat)} {cells:List (List Value)} (h:Own W base e k v rows cells):∀ b,v.ownBlock=some b→base≤b∧b<W.heap.size:=h.own.lt
theorem Own.kept {S:Nat→Prop} {W W':World} {base:Nat} {e:TypeId} {k:Nat} {v:Value} {rows:List (List Dat)} {cells:List (List Value)} (h:Own W base e k v rows cells) (g:Kept S W W') (hS:∀ b,base≤b→¬ S b):Own W' base e k v rows cells :=
 ⟨zcH h.own fun b hb=>g.block b (h.lt b hb).2 (hS b (h.lt b hb).1),h.len,fun i r cs hr hc=>⟨(h.row i r cs hr hc).1,(h.row i r cs hr hc).2.kept g fun b _ ho=>hS b ho.1⟩⟩
theorem Own.rep {W:World} {base:Nat} {e:TypeId} {k:Nat} {v:Value} {rows:List (List Dat)} {cells:List (List Value)} (h:Own W base e k v rows cells):Rep W (fun b=>base≤b) (.sl k rows) v:=by
 have hcs:=h.cs;obtain ⟨ao,cap,hv,h1,h2,h4⟩:=SlAt.of hcs (by rw[h.len];exact h.own);rw[h.len]at hv h1;subst hv;refine .sl k rows ao cap cells h1 h2 h.len (fun i r cs hr hc=>⟨(h.row i r cs hr hc).1,hcs cs (yP hc)⟩) (fun i cs hi=>?_) (fun i r cs j d c hr hc hd hcc=>((h.row i r cs hr hc).2.2 j d c hd hcc).weak fun b _ ho=>ho.1);obtain ⟨b,o,e1,e2,e3⟩:=h4 i cs hi;subst e1;exact ⟨b,o,rfl,e2,(h.lt b rfl).1,e3⟩
theorem zcY {P:Program} (w:World) (base:Nat) (t ty e:TypeId) (i:TypeInfo) (z:Value) (size bytes:Nat) (ht:P.underlying t=some (.slice e)) (hi:P.info? e=some i) (hz:i.zero=some z)
 (hsize:i.size=size) (hby:i.bytes=bytes) (hzs:z.cells.size=size) (hsz:0<size)
 (v:Value) (n:Nat) (xs:List Value) (hown:w.ownsRow base e size v n xs)
 (a:Addr) (c:Nat) (news:List Value) (hl:news.length=1*size) (hnews:∀ j u,news[j]?=some u→w.cell? (a.add j)=some u) (h1:∀ u∈news,u.oneCell'=true)
 (h63:n+1≤maxLen) (hbytes:(n+1)*bytes≤140737488355328) (hbase:base≤w.heap.size) :
 ∃ v' w',(Builtin.append_ #[t,t] ty #[v,.slice (some a) 1 c]).run P w=.ok v' w'∧w'.ownsRow base e size v' (n+1) (xs++news)∧w.grownBy w' v.ownBlock∧
  (v'.ownBlock=v.ownBlock∨∃ b,v'.ownBlock=some b∧w.heap.size≤b):=by
 obtain ⟨v',w',hr,ho,hg,_⟩:=run_append_own (P:=P) w base t ty e i z size bytes ht hi hz hsize hby hzs hsz v n xs hown a 1 c news hl hnews h1 h63 hbytes hbase;refine ⟨v',w',hr,ho,hg,?_⟩;have hfresh:∀ (m cp:Nat) (W:World),(Builtin.append_ #[t,t] ty #[v,.slice (some a) 1 c]).run P w=.ok (.slice (some ⟨w.heap.size,0,none⟩) m cp) W→v'.ownBlock=v.ownBlock∨∃ b,v'.ownBlock=some b∧w.heap.size≤b:=by
  intro m cp W h;rw[hr]at h;injection h with e1 _
  subst e1;exact .inr ⟨_,rfl,yG _⟩
 have hsame:∀ (g m m' cp cp':Nat) (W:World),v=.slice (some ⟨g,0,none⟩) m' cp'→(Builtin.append_ #[t,t] ty #[v,.slice (some a) 1 c]).run P w=.ok (.slice (some ⟨g,0,none⟩) m cp) W→v'.ownBlock=v.ownBlock∨∃ b,v'.ownBlock=some b∧w.heap.size≤b:=by
  intro g m m' cp cp' W hv h;rw[hr]at h;injection h with e1 _
  subst e1 hv;exact .inl rfl
 subst hsize hby;unfold maxLen at h63;rcases hown.2 with ⟨rfl,rfl⟩|⟨g,cap,cur,rfl,hbg,hgg,hnc,hcm,hcs,htake⟩
 ·exact hfresh _ _ _ (run_append_nil (P:=P) w t ty e i z ht hi hz a 1 c news hl hnews (by omega) (by omega) (by omega))
 ·by_cases hroom:n+1≤cap
  ·have hfit:n*i.size+news.length≤cur.size:=by rw[hl,hcs,← Nat.add_mul];exact Nat.mul_le_mul_right _ hroom
   exact hsame g _ _ _ _ _ rfl (run_append_room (P:=P) w t ty e i ht hi g n cap cur hgg a 1 c news hl hnews h1 hroom hfit)
  ·exact hfresh _ _ _ (run_append_grow (P:=P) w t ty e i z ht hi hz ⟨g,0,none⟩ n cap xs hown.1 (hown.cells (g:=g) rfl) a 1 c news hl hnews (by omega) (by omega) (growslice_fits (by omega) hbytes))
theorem Rep.lit {V:World} {ok ok':Nat→Prop} {k:Nat} {rows:List (List Dat)} {cells:List (List Value)} {t:TypeId} {ca:Array Value} (hl:cells.length=rows.length) (hca:ca.toList=cells.flatten) (hm:rows.length≤1000000)
 (hr:∀ (i:Nat) (r:List Dat) (cs:List Value),rows[i]?=some r→cells[i]?=some cs→r.length=k∧Row V ok r cs) (h1:∀ b,ok b→ok' b) (h2:ok' V.heap.size) :
 Rep (V.alloc (.cells ca t)) ok' (.sl k rows) (.slice (some ⟨V.heap.size,0,none⟩) rows.length rows.length):=by
 have hcs:∀ x∈cells,x.length=k:=fun x hx=>by
  obtain ⟨i,hi⟩:=List.mem_iff_getElem?.1 hx;have hlt:=(yE.1 hi).1;have hr':rows[i]?=some (rows[i]'(by omega)):=yF _;obtain ⟨g1,g2⟩:=hr i _ x hr' hi;rw[← g2.1];exact g1
 refine .sl k rows _ _ cells (yG _) (by unfold maxLen;omega) hl (fun i r cs h g=>⟨(hr i r cs h g).1,hcs cs (yP g)⟩) (fun i cs hi=>⟨_,_,rfl,by simp,h2,fun j hj=>?_⟩) (fun i r cs j d c h g hd hc=>?_)
 ·rw[World.cell?_alloc_at _ _ _ _ rfl,Nat.zero_add,← Array.getElem?_toList,hca];exact zhZ cells hcs i cs hi j hj
 ·exact ((hr i r cs h g).2.2 j d c hd hc).both (S:=fun _=>False) (Kept.of_below ((Below.refl _ V).alloc (yG _) _)) (fun _ _ _ h=>h) fun b _ h=>h1 b h
open Lx
theorem _root_.Go.Proofs.YtonkjhmkppeagaaGreatDoor.Ba.Box.six {W:World} {B:Nat} {a b c d e f:Value} (h:Box W B [a,b,c,d,e,f]):W.cell? ⟨B,0,none⟩=some a∧W.cell? ⟨B,1,none⟩=some b∧W.cell? ⟨B,2,none⟩=some c∧W.cell? ⟨B,3,none⟩=some d∧W.cell? ⟨B,4,none⟩=some e∧W.cell? ⟨B,5,none⟩=some f∧W.frozen? ⟨B,1,none⟩=false∧W.frozen? ⟨B,3,none⟩=false∧W.frozen? ⟨B,4,none⟩=false∧W.frozen? ⟨B,5,none⟩=false :=
 ⟨h.cl 0 _ rfl,h.cl 1 _ rfl,h.cl 2 _ rfl,h.cl 3 _ rfl,h.cl 4 _ rfl,h.cl 5 _ rfl,h.fr 1 (by simp),h.fr 3 (by simp),h.fr 4 (by simp),h.fr 5 (by simp)⟩
theorem _root_.Go.Proofs.YtonkjhmkppeagaaGreatDoor.Ba.Box.four' {W:World} {B:Nat} {a b c d:Value} (h:Box W B [a,b,c,d]):W.cell? ⟨B,0,none⟩=some a∧W.cell? ⟨B,1,none⟩=some b∧W.cell? ⟨B,2,none⟩=some c∧W.cell? ⟨B,3,none⟩=some d :=
 ⟨h.cl 0 _ rfl,h.cl 1 _ rfl,h.cl 2 _ rfl,h.cl 3 _ rfl⟩
def TokIn (W:World) (B:Nat) (v:Value) (ts:List Tok):Prop :=
 ∃ ao cap,v=.slice ao ts.length cap∧ts.length≤cap∧cap≤maxLen∧∀ i t,ts[i]?=some t→∃ g,ao=some ⟨g,0,none⟩∧g<W.heap.size∧g<B∧∀ j,j<4→W.cell? ⟨g,i*4+j,none⟩=(zcO t)[j]?
theorem TokIn.kept {S:Nat→Prop} {W W':World} {B:Nat} {v:Value} {ts:List Tok} (h:TokIn W B v ts) (g:Kept S W W') (hS:∀ k,S k→B≤k):TokIn W' B v ts:=by
 obtain ⟨ao,cap,h1,h2,h3,h4⟩:=h;refine ⟨ao,cap,h1,h2,h3,fun i t ht=>?_⟩;obtain ⟨b,e1,e2,e3,e4⟩:=h4 i t ht;exact ⟨b,e1,Nat.lt_of_lt_of_le e2 g.size,e3,fun j hj=>(kcell g e2 (fun x=>by have:=hS b x;omega)).trans (e4 j hj)⟩
theorem tok4 {W:World} {g i:Nat} {t:Tok} (h:∀ j,j<4→W.cell? ⟨g,i*4+j,none⟩=(zcO t)[j]?):W.cell? ⟨g,i*4,none⟩=some (.int .i64 t.k)∧W.cell? ⟨g,i*4+1,none⟩=some (.string ⟨t.t.toArray⟩)∧W.cell? ⟨g,i*4+2,none⟩=some (.int .i64 t.n)∧W.cell? ⟨g,i*4+3,none⟩=some (.int .i64 (t.p:Int)) :=
 ⟨h 0 (by decide),h 1 (by decide),h 2 (by decide),h 3 (by decide)⟩
def PAt (w:World) (B d:Nat) (s:Ps):Prop :=
 s.i≤s.T.length∧s.T.length≤20000∧d≤32∧(∀ t∈s.T,0≤t.n∧t.n≤9223372036854775807)∧∃ sl,Box w B [sl,.int .i64 (s.i:Int),.int .i64 (s.E:Int),.int .i64 (d:Int),.int .i64 s.e,.int .i64 (s.a:Int)]∧TokIn w B sl s.T
theorem PAt.lt {w:World} {B d:Nat} {s:Ps} (h:PAt w B d s):B<w.heap.size:=by
 obtain ⟨_,_,_,_,sl,hb,_⟩:=h;exact hb.lt
theorem PAt.il {w:World} {B d:Nat} {s:Ps} (h:PAt w B d s):s.i≤s.T.length:=h.1
theorem PAt.tl {w:World} {B d:Nat} {s:Ps} (h:PAt w B d s):s.T.length≤20000:=h.2.1
theorem PAt.kept {S:Nat→Prop} {w w':World} {B d:Nat} {s:Ps} (h:PAt w B d s) (g:Kept S w w') (hS:∀ k,S k→B<k):PAt w' B d s:=by
 obtain ⟨h1,h2,hd,h3,sl,hb,ht⟩:=h;exact ⟨h1,h2,hd,h3,sl,hb.kept g (fun x=>by have:=hS B x;omega),ht.kept g fun k x=>Nat.le_of_lt (hS k x)⟩
theorem PAt.below {w w':World} {B d:Nat} {s:Ps} (h:PAt w B d s) (g:Below w.heap.size w w'):PAt w' B d s:=h.kept (S:=fun _=>False) (Kept.of_below g) fun _ x=>x.elim
theorem PAt.turn {w w':World} {B d:Nat} {s:Ps} {sl:Value} (h:PAt w B d s) (ht:TokIn w B sl s.T) (K:Kept (fun b=>b=B) w w') {i' d' a':Nat} {e':Int} (hi:i'≤s.T.length) (hd:d'≤32)
 (hb:Box w' B [sl,.int .i64 (i':Int),.int .i64 (s.E:Int),.int .i64 (d':Int),.int .i64 e',.int .i64 (a':Int)]):PAt w' B d' ⟨s.T,s.E,i',e',a'⟩:=by
 obtain ⟨h1,h2,hd',h3,_⟩:=h;exact ⟨hi,h2,hd,h3,sl,hb,ht.kept K fun k x=>by have x':k=B:=x;omega⟩
theorem PAt.apart {w w':World} {B d C:Nat} {s:Ps} (h:PAt w B d s) (g:Kept (fun b=>b=C) w w') (hC:B<C):PAt w' B d s:=h.kept g fun k x=>by have x':k=C:=x;omega
abbrev dI (n:Int):Dat:=.v (.int .i64 n)
abbrev dS (s:Str):Dat:=.v (.string ⟨s.toArray⟩)
abbrev dB (b:Bool):Dat:=.v (.bool b)
mutual
def exD:Ex→List Dat
 | .mk k nm v op xs=>[dI k,dS nm,dI v.k,dI v.n,dS v.t,dS op,.sl 7 (exDs xs)]
def exDs:List Ex→List (List Dat)
 | []=>[]
 | x::r=>exD x::exDs r
end
theorem zi6 (x:Ex):exD x=[dI x.k,dS x.nm,dI x.v.k,dI x.v.n,dS x.v.t,dS x.op,.sl 7 (exDs x.xs)]:=by cases x;rw[exD];rfl
theorem zdh:∀ xs:List Ex,exDs xs=xs.map exD
 | []=>by rw[exDs];rfl
 | x::r=>by rw[exDs,zdh r];rfl
theorem zqg (xs:List Ex):(exDs xs).length=xs.length:=by rw[zdh,yC]
theorem zbk (x:Ex):(exD x).length=7:=by rw[zi6];rfl
def strD (n:Str):List Dat:=[dS n]
def pairD (p:Str×Str):List Dat:=[dS p.1,dS p.2]
def aggD (p:Str×Str×Str):List Dat:=[dS p.1,dS p.2.1,dS p.2.2]
def ordD (p:Str×Bool):List Dat:=[dS p.1,dB p.2]
mutual
def plD:Pl→List Dat
 | .mk k nm xs cond names exprs on aggs ord cnt=>[dI k,dS nm,.sl 16 (plDs xs)]++exD cond++[.sl 1 (names.map strD),.sl 7 (exDs exprs),.sl 2 (on.map pairD),.sl 3 (aggs.map aggD),.sl 2 (ord.map ordD),dI cnt]
def plDs:List Pl→List (List Dat)
 | []=>[]
 | x::r=>plD x::plDs r
end
theorem zaZ:∀ xs:List Pl,plDs xs=xs.map plD
 | []=>by rw[plDs];rfl
 | x::r=>by rw[plDs,zaZ r];rfl
theorem za7 (x:Pl):(plD x).length=16:=by cases x;rw[plD];simp[zbk]
def colD (p:Str×Int):List Dat:=[dS p.1,dI p.2]
def scD (s:Sc):List Dat:=[dI s.k,dI s.f,dI s.l]
def inpD (p:Inp):List Dat:=[dS p.a,dI p.k,dI p.n,dS p.s]
def dfD (x:Df):List Dat:=[dI x.k,dS x.nm,.sl 2 (x.sch.map colD)]++scD x.sc++[.sl 4 (x.ins.map inpD)]++plD x.plan++[dS x.cron,.sl 1 (x.mks.map strD)]
theorem zj5 (x:Df):(dfD x).length=25:=by unfold dfD scD;simp[za7]
abbrev exV (x:Ex) (sl:Value):Value:=.agg #[.int .i64 x.k,.string ⟨x.nm.toArray⟩,.int .i64 x.v.k,.int .i64 x.v.n,.string ⟨x.v.t.toArray⟩,.string ⟨x.op.toArray⟩,sl]
abbrev exC (x:Ex) (sl:Value):List Value:=[.int .i64 x.k,.string ⟨x.nm.toArray⟩,.int .i64 x.v.k,.int .i64 x.v.n,.string ⟨x.v.t.toArray⟩,.string ⟨x.op.toArray⟩,sl]
abbrev XArgs (W:World) (ok:Nat→Prop) (sl:Value) (xs:List Ex):Prop:=Rep W ok (.sl 7 (exDs xs)) sl
theorem XArgs.len {ok:Nat→Prop} {W:World} {v:Value} {xs:List Ex} (h:XArgs W ok v xs):∃ ao cap,v=.slice ao xs.length cap∧xs.length≤cap∧cap≤maxLen:=by
 have:=Rep.len h;rw[zqg]at this;exact this
theorem zbC {ok:Nat→Prop} {W:World} {x:Ex} {sl:Value} (h:XArgs W ok sl x.xs):Row W ok (exD x) (exC x sl):=by
 rw[zi6];exact (((((((Row.nil W ok).cons h).cons (.v _ rfl)).cons (.v _ rfl)).cons (.v _ rfl)).cons (.v _ rfl)).cons (.v _ rfl)).cons (.v _ rfl)
theorem zkY {ok:Nat→Prop} {W:World} {x:Ex} {cs:List Value} (h:Row W ok (exD x) cs):∃ sl,cs=exC x sl∧XArgs W ok sl x.xs:=by
 rw[zi6]at h;obtain ⟨c0,r0,rfl,h0,h⟩:=h.uncons;obtain ⟨c1,r1,rfl,h1,h⟩:=h.uncons;obtain ⟨c2,r2,rfl,h2,h⟩:=h.uncons;obtain ⟨c3,r3,rfl,h3,h⟩:=h.uncons;obtain ⟨c4,r4,rfl,h4,h⟩:=h.uncons;obtain ⟨c5,r5,rfl,h5,h⟩:=h.uncons;obtain ⟨c6,r6,rfl,h6,h⟩:=h.uncons;obtain rfl:=h.unnil;obtain rfl:=h0.val;obtain rfl:=h1.val;obtain rfl:=h2.val;obtain rfl:=h3.val;obtain rfl:=h4.val;obtain rfl:=h5.val;exact ⟨c6,rfl,h6⟩
def RowTo (w:World) (B d:Nat) (ds:List Dat) (s:Ps) (e:Ending) (w':World):Prop :=
 ∃ cs,e=.returned (.agg cs.toArray)∧Row w' (fun b=>w.heap.size≤b) ds cs∧Kept (fun b=>b=B) w w'∧PAt w' B d s
def ExTo (w:World) (B d:Nat) (x:Ex) (s:Ps) (e:Ending) (w':World):Prop :=
 ∃ ao cap,e=.returned (exV x (.slice ao x.xs.length cap))∧XArgs w' (fun b=>w.heap.size≤b) (.slice ao x.xs.length cap) x.xs∧Kept (fun b=>b=B) w w'∧PAt w' B d s
