/- The plain law of the reader of expressions: what it does with tokens, step by step. No program in sight. The plain law of the reader: it goes on, never back; behind an error it stays; errors are told at a token or at the end. No program in sight. The plain law of the reader of queries and definitions: what it does with tokens, step by step. No program in sight. Worlds that change in some blocks alone; data that lie in memory: scalars, and slices of rows of data; rows that are gathered. No function of the program in sight. What the reader's memory holds: the reader, expressions, plans. -/
import Derived.Test.YtonkjhmkppeagaaGreatDoorULexA
import Derived.Test.YtonkjhmkppeagaaGreatDoorUBase
set_option linter.unusedVariables false
set_option linter.unusedSimpArgs false
namespace Go.Proofs.YtonkjhmkppeagaaGreatDoor.Pz
open Go.Proofs.Tryz
open Go Go.RowKit Lx
abbrev Str:=List UInt8
structure Vl where
 k:Int
 n:Int
 t:Str
 deriving DecidableEq
def zV:Vl:=⟨0,0,[]⟩
inductive Ex where
 | mk (k:Int) (nm:Str) (v:Vl) (op:Str) (xs:List Ex)
def Ex.k:Ex→Int|.mk k _ _ _ _=>k
def Ex.nm:Ex→Str|.mk _ n _ _ _=>n
def Ex.v:Ex→Vl|.mk _ _ v _ _=>v
def Ex.op:Ex→Str|.mk _ _ _ o _=>o
def Ex.xs:Ex→List Ex|.mk _ _ _ _ a=>a
def zEx:Ex:=.mk 0 [] zV [] []
def zat (op:Str) (a:Ex):Ex:=.mk 3 [] zV op [a]
def zag (op:Str) (a b:Ex):Ex:=.mk 4 [] zV op [a,b]
def zal (v:Vl):Ex:=.mk 2 [] v [] []
def zaz (n:Str):Ex:=.mk 1 n zV [] []
def callE (n:Str) (xs:List Ex):Ex:=.mk 5 n zV [] xs
structure Ps where
 T:List Tok
 E:Nat
 i:Nat
 e:Int
 a:Nat
def zTok:Tok:=⟨0,[],0,0⟩
def peekP (s:Ps):Tok:=if s.e=0 then s.T.getD s.i zTok else zTok
def failP (s:Ps) (e:Int):Ps:=if s.e=0 then { s with e:=e,a:=match s.T[s.i]? with|some t=>t.p|none=>s.E } else s
def advP (s:Ps):Ps:={ s with i:=s.i+1 }
def isP (s:Ps) (x:Str):Bool:=decide (((peekP s).k=1∨(peekP s).k=4)∧(peekP s).t=x)
def zez (x:Str) (s:Ps):Ps:=if isP s x=true then advP s else s
def wantP (x:Str) (s:Ps):Ps:=if isP s x=true then advP s else failP s 51
def zak (k:Int) (s:Ps):Tok×Ps:=if (peekP s).k=k then (peekP s,advP s) else (zTok,failP s 51)
def nameP (s:Ps):Str×Ps:=((zak 1 s).1.t,(zak 1 s).2)
def zeR:Nat→List Str→Ps→Nat×Ps
 | _,[],s=>(0,failP s 51)
 | n,w::ws,s=>if isP s w=true then (n,advP s) else zeR (n+1) ws s
def oneP (ws:List Str) (s:Ps):Nat×Ps:=zeR 1 ws s
def zaN {α:Type} (f:α→Ps→α×Ps):Nat→α→Ps→α×Ps
 | 0,a,s=>(a,s)
 | n+1,a,s=>if isP s [44]=true then zaN f n (f a (advP s)).1 (f a (advP s)).2 else (a,s)
def listP {α:Type} (f:α→Ps→α×Ps) (a:α) (s:Ps):α×Ps:=zaN f (s.T.length+1) (f a s).1 (f a s).2
abbrev PE:=Ps→Ex×Ps
def sOr:Str:=[111,114]
def sAnd:Str:=[97,110,100]
def sNot:Str:=[110,111,116]
def sNull:Str:=[110,117,108,108]
def zcw:List Str:=[[61],[33,61],[60],[60,61],[62],[62,61]]
def zbV:List Str:=[[43],[45]]
def zbs:List Str:=[[42],[47],[37]]
def zaF:List Str→Ps→Option Nat
 | [],_=>none
 | o::r,s=>if isP s o=true then some 0 else (zaF r s).map (·+1)
def zaJ (inner:PE) (ops:List Str):Nat→Ex→Ps→Ex×Ps
 | 0,x,s=>(x,s)
 | n+1,x,s=>match zaF ops s with
  | none=>(x,s)
  | some k=>zaJ inner ops n (zag (ops.getD k []) x (inner (advP s)).1) (inner (advP s)).2
def zaB (inner:PE) (ops:List Str):PE:=fun s=>zaJ inner ops (s.T.length+1) (inner s).1 (inner s).2
def zbB (sum:PE):PE:=fun s=>match zaF zcw (sum s).2 with
 | none=>sum s
 | some k=>(zag (zcw.getD k []) (sum s).1 (sum (advP (sum s).2)).1,(sum (advP (sum s).2)).2)
def notP (dnot comp:PE):PE:=fun s=>if isP s sNot=true then (zat sNot (dnot (advP s)).1,(dnot (advP s)).2) else comp s
def zb6 (dminus prim:PE):PE:=fun s =>
 if isP s [45]=true then
  (if (peekP (advP s)).k=2∧0<(peekP (advP s)).n then (zal ⟨1,-(peekP (advP s)).n,[]⟩,advP (advP s))
   else (zat [45] (dminus (advP s)).1,(dminus (advP s)).2))
 else prim s
def argP (dor:PE) (acc:List Ex) (s:Ps):List Ex×Ps:=(acc++[(dor s).1],(dor s).2)
def primP (dor dparen:PE):PE:=fun s =>
 if (peekP s).k=2 then (zal ⟨1,(peekP s).n,[]⟩,advP s)
 else if (peekP s).k=3 then (zal ⟨2,0,(peekP s).t⟩,advP s)
 else if isP s sNull=true then (zal zV,advP s)
 else if isP s [40]=true then dparen s
 else if (peekP s).k≠1∨(peekP s).t=sAnd∨(peekP s).t=sOr∨(peekP s).t=sNot then (zEx,failP s 51)
 else if isP (advP s) [40]=true then
  (callE (peekP s).t (listP (argP dor) [] (advP (advP s))).1,wantP [41] (listP (argP dor) [] (advP (advP s))).2)
 else (zaz (peekP s).t,advP s)
def zcg (or:PE):PE:=fun s=>((or (wantP [40] s)).1,wantP [41] (or (wantP [40] s)).2)
def zdL:PE:=fun s=>(zEx,failP s 52)
structure Dp where
 dor:PE
 dnot:PE
 dminus:PE
 dparen:PE
def prL (D:Dp):PE:=primP D.dor D.dparen
def mnL (D:Dp):PE:=zb6 D.dminus (prL D)
def pdL (D:Dp):PE:=zaB (mnL D) zbs
def smL (D:Dp):PE:=zaB (pdL D) zbV
def cmL (D:Dp):PE:=zbB (smL D)
def ntL (D:Dp):PE:=notP D.dnot (cmL D)
def anL (D:Dp):PE:=zaB (ntL D) [sAnd]
def orL (D:Dp):PE:=zaB (anL D) [sOr]
def deepN:Nat→Dp
 | 0=>⟨zdL,zdL,zdL,zdL⟩
 | n+1=>⟨orL (deepN n),ntL (deepN n),mnL (deepN n),zcg (orL (deepN n))⟩
def zaj:PE:=(deepN 32).dor
def openP (l:Str):Ps:=⟨(lexS l).1,l.length,0,(lexS l).2.2,(lexS l).2.1⟩
def allP (s:Ps):Ps:=if s.e=0∧s.i<s.T.length then failP s 51 else s
def zbO (l:Str):Ex×Nat×Int :=
 if (allP (zaj (openP l)).2).e=0 then ((zaj (openP l)).1,l.length,0) else (zEx,(allP (zaj (openP l)).2).a,(allP (zaj (openP l)).2).e)
end Go.Proofs.YtonkjhmkppeagaaGreatDoor.Pz
namespace Go.Proofs.YtonkjhmkppeagaaGreatDoor.Pz
open Go.Proofs.Tryz
open Go Go.RowKit Lx
structure Goes (s s':Ps):Prop where
 T:s'.T=s.T
 E:s'.E=s.E
 i:s.i≤s'.i
 le:s.i≤s.T.length→s'.i≤s.T.length
 er:s.e≠0→s'=s
 ok:s.e=0→s'.e=0∨(s'.e=51∨s'.e=52)∧(s'.a=s.E∨∃ t∈s.T,t.p=s'.a)
theorem Goes.refl (s:Ps):Goes s s:=⟨rfl,rfl,Nat.le_refl _,id,fun _=>rfl,fun h=>.inl h⟩
theorem Goes.trans {a b c:Ps} (h:Goes a b) (g:Goes b c):Goes a c:=by
 refine ⟨g.T.trans h.T,g.E.trans h.E,Nat.le_trans h.i g.i,fun x=>?_,fun x=>?_,fun x=>?_⟩
 ·have:=h.le x;have h2:=g.le (by rw[h.T];exact this);rw[h.T]at h2;exact h2
 ·have e:=h.er x;subst e;exact g.er x
 ·rcases h.ok x with y|y
  ·have:=g.ok y;rw[h.E,h.T]at this;exact this
  ·have hne:b.e≠0:=by rcases y.1 with y|y<;>rw[y]<;>decide
   rw[g.er hne];exact .inr y
theorem zjR {s:Ps} (h:s.e≠0):peekP s=zTok:=by unfold peekP;rw[if_neg h]
theorem zhk {s:Ps} (h:s.T.length≤s.i):peekP s=zTok:=by
 unfold peekP;split
 ·rw[List.getD_eq_getElem?_getD,List.getElem?_eq_none h];rfl
 ·rfl
theorem ziY {s:Ps} {t:Tok} (he:s.e=0) (h:s.T[s.i]?=some t):peekP s=t:=by
 unfold peekP;rw[if_pos he,List.getD_eq_getElem?_getD,h];rfl
theorem zbX {s:Ps} (h:(peekP s).k≠0):s.e=0∧s.i<s.T.length∧s.T[s.i]?=some (peekP s):=by
 have h1:s.e=0:=by
  apply Classical.byContradiction;intro hn;rw[zjR hn]at h;exact h rfl
 have h2:s.i<s.T.length:=by
  apply Classical.byContradiction;intro hn;rw[zhk (by omega)]at h;exact h rfl
 refine ⟨h1,h2,?_⟩;have h3:s.T[s.i]?=some (s.T[s.i]):=List.getElem?_eq_getElem h2;rw[ziY h1 h3];exact h3
theorem zfv {s:Ps} {x:Str} (h:isP s x=true):(peekP s).k≠0:=by
 unfold isP at h;rw[decide_eq_true_eq]at h;rcases h.1 with h|h<;>rw[h]<;>decide
theorem zco {s:Ps} {x:Str} (h:isP s x=true):s.e=0∧s.i<s.T.length:=⟨(zbX (zfv h)).1,(zbX (zfv h)).2.1⟩
theorem zde {s:Ps} (h:(peekP s).k≠0):Goes s (advP s):=by
 obtain ⟨h1,h2,_⟩:=zbX h;exact ⟨rfl,rfl,Nat.le_succ _,fun _=>h2,fun x=>absurd h1 x,fun x=>.inl x⟩
theorem zaA {s:Ps} {x:Str} (h:isP s x=true):Goes s (advP s):=zde (zfv h)
theorem zc8 (s:Ps) (e:Int) (he:e=51∨e=52):Goes s (failP s e):=by
 unfold failP;split
 ·rename_i h
  refine ⟨rfl,rfl,Nat.le_refl _,id,fun x=>absurd h x,fun _=>.inr ⟨he,?_⟩⟩;simp only
  cases ht:s.T[s.i]? with
  | none=>exact .inl rfl
  | some t=>exact .inr ⟨t,List.mem_of_getElem? ht,rfl⟩
 ·exact Goes.refl s
theorem zgN (x:Str) (s:Ps):Goes s (zez x s):=by
 unfold zez;split
 ·rename_i h;exact zaA h
 ·exact Goes.refl s
theorem zam (x:Str) (s:Ps):Goes s (wantP x s):=by
 unfold wantP;split
 ·rename_i h;exact zaA h
 ·exact zc8 s 51 (.inl rfl)
theorem zbi (k:Int) (hk:k≠0) (s:Ps):Goes s (zak k s).2:=by
 unfold zak;split
 ·rename_i h;exact zde (by rw[h];exact hk)
 ·exact zc8 s 51 (.inl rfl)
theorem zaM (s:Ps):Goes s (nameP s).2:=zbi 1 (by decide) s
theorem ze8:∀ (ws:List Str) (n:Nat) (s:Ps),Goes s (zeR n ws s).2
 | [],n,s=>zc8 s 51 (.inl rfl)
 | w::ws,n,s=>by
  unfold zeR;split
  ·rename_i h;exact zaA h
  ·exact ze8 ws (n+1) s
theorem zb1 (ws:List Str) (s:Ps):Goes s (oneP ws s).2:=ze8 ws 1 s
theorem zbJ {α:Type} {f:α→Ps→α×Ps} (hf:∀ a s,Goes s (f a s).2):∀ (n:Nat) (a:α) (s:Ps),Goes s (zaN f n a s).2
 | 0,a,s=>Goes.refl s
 | n+1,a,s=>by
  unfold zaN;split
  ·rename_i h;exact ((zaA h).trans (hf a (advP s))).trans (zbJ hf n _ _)
  ·exact Goes.refl s
theorem zbt {α:Type} {f:α→Ps→α×Ps} (hf:∀ a s,Goes s (f a s).2) (a:α) (s:Ps):Goes s (listP f a s).2 :=
 (hf a s).trans (zbJ hf _ _ _)
theorem zdB {α:Type} {f:α→Ps→α×Ps} {n:Nat} {a:α} {s:Ps} (h:isP s [44]=false):zaN f n a s=(a,s):=by
 cases n with
 | zero=>rfl
 | succ n=>unfold zaN;rw[if_neg (by rw[h];decide)]
theorem zcK {α:Type} {f:α→Ps→α×Ps} {n:Nat} {a:α} {s:Ps} (h:isP s [44]=true):zaN f (n+1) a s=zaN f n (f a (advP s)).1 (f a (advP s)).2:=by
 conv=>lhs;unfold zaN
 rw[if_pos h]
def GoesE (f:PE):Prop:=∀ s,Goes s (f s).2
theorem zbE:∀ {ops:List Str} {s:Ps} {k:Nat},zaF ops s=some k→∃ o,ops[k]?=some o∧isP s o=true
 | o::r,s,k,h=>by
  unfold zaF at h;split at h
  ·rename_i hi
   obtain rfl:0=k:=by simpa using h
   exact ⟨o,rfl,hi⟩
  ·cases hr:zaF r s with
   | none=>rw[hr]at h;cases h
   | some j =>
    rw[hr]at h;obtain rfl:j+1=k:=by simpa using h
    obtain ⟨o',h1,h2⟩:=zbE hr;exact ⟨o',by simpa using h1,h2⟩
theorem zbD {f:PE} (hf:GoesE f) (ops:List Str):∀ (n:Nat) (x:Ex) (s:Ps),Goes s (zaJ f ops n x s).2
 | 0,x,s=>Goes.refl s
 | n+1,x,s=>by
  unfold zaJ
  cases h:zaF ops s with
  | none=>exact Goes.refl s
  | some k =>
   obtain ⟨o,_,h2⟩:=zbE h;exact ((zaA h2).trans (hf (advP s))).trans (zbD hf ops n _ _)
theorem zdr {f:PE} (hf:GoesE f) (ops:List Str):GoesE (zaB f ops):=fun s=>(hf s).trans (zbD hf ops _ _ _)
theorem zdu {f:PE} {ops:List Str} {n:Nat} {x:Ex} {s:Ps} (h:zaF ops s=none):zaJ f ops n x s=(x,s):=by
 cases n with
 | zero=>rfl
 | succ n=>unfold zaJ;rw[h]
theorem zcY {f:PE} {ops:List Str} {n k:Nat} {x:Ex} {s:Ps} (h:zaF ops s=some k):zaJ f ops (n+1) x s=zaJ f ops n (zag (ops.getD k []) x (f (advP s)).1) (f (advP s)).2:=by
 conv=>lhs;unfold zaJ
 rw[h]
theorem zfa {f:PE} (hf:GoesE f):GoesE (zbB f):=fun s=>by
 unfold zbB
 cases h:zaF zcw (f s).2 with
 | none=>exact hf s
 | some k =>
  obtain ⟨o,_,h2⟩:=zbE h;exact ((hf s).trans (zaA h2)).trans (hf _)
theorem zpc {f g:PE} (hf:GoesE f) (hg:GoesE g):GoesE (notP f g):=fun s=>by
 unfold notP;split
 ·rename_i h;exact (zaA h).trans (hf _)
 ·exact hg s
theorem zk3 {f g:PE} (hf:GoesE f) (hg:GoesE g):GoesE (zb6 f g):=fun s=>by
 unfold zb6;split
 ·rename_i h
  split
  ·rename_i h2
   exact (zaA h).trans (zde (by rw[h2.1];decide))
  ·exact (zaA h).trans (hf _)
 ·exact hg s
theorem zfw {f:PE} (hf:GoesE f) (acc:List Ex) (s:Ps):Goes s (argP f acc s).2:=hf s
theorem zna {f g:PE} (hf:GoesE f) (hg:GoesE g):GoesE (primP f g):=fun s=>by
 unfold primP;split
 ·rename_i h;exact zde (by rw[h];decide)
 split
 ·rename_i h;exact zde (by rw[h];decide)
 split
 ·rename_i h;exact zaA h
 split
 ·exact hg s
 split
 ·exact zc8 s 51 (.inl rfl)
 rename_i h1
 have hk:(peekP s).k=1:=Classical.byContradiction fun hn=>h1 (.inl hn)
 have ha:Goes s (advP s):=zde (by rw[hk];decide);split
 ·rename_i h2
  exact ((ha.trans (zaA h2)).trans (zbt (zfw hf) _ _)).trans (zam _ _)
 ·exact ha
theorem zk2 {f:PE} (hf:GoesE f):GoesE (zcg f):=fun s=>((zam _ _).trans (hf _)).trans (zam _ _)
theorem zeF:GoesE zdL:=fun s=>zc8 s 52 (.inr rfl)
structure GoesD (D:Dp):Prop where
 dor:GoesE D.dor
 dnot:GoesE D.dnot
 dminus:GoesE D.dminus
 dparen:GoesE D.dparen
section
variable {D:Dp} (h:GoesD D)
include h
theorem GoesD.pr:GoesE (prL D):=zna h.dor h.dparen
theorem GoesD.mn:GoesE (mnL D):=zk3 h.dminus h.pr
theorem GoesD.pd:GoesE (pdL D):=zdr h.mn _
theorem GoesD.sm:GoesE (smL D):=zdr h.pd _
theorem GoesD.cm:GoesE (cmL D):=zfa h.sm
theorem GoesD.nt:GoesE (ntL D):=zpc h.dnot h.cm
theorem GoesD.an:GoesE (anL D):=zdr h.nt _
theorem GoesD.or:GoesE (orL D):=zdr h.an _
end
theorem zci:∀ n,GoesD (deepN n)
 | 0=>⟨zeF,zeF,zeF,zeF⟩
 | n+1=>⟨(zci n).or,(zci n).nt,(zci n).mn,zk2 (zci n).or⟩
theorem zdq:GoesE zaj:=(zci 32).dor
end Go.Proofs.YtonkjhmkppeagaaGreatDoor.Pz
namespace Go.Proofs.YtonkjhmkppeagaaGreatDoor.Pz
open Go.Proofs.Tryz
open Go Go.RowKit Lx
inductive Pl where
 | mk (k:Int) (nm:Str) (xs:List Pl) (cond:Ex) (names:List Str) (exprs:List Ex) (on:List (Str×Str)) (aggs:List (Str×Str×Str)) (ord:List (Str×Bool)) (cnt:Int)
def zPl:Pl:=.mk 0 [] [] zEx [] [] [] [] [] 0
def scanL (n:Str):Pl:=.mk 1 n [] zEx [] [] [] [] [] 0
abbrev PQ:=Ps→Pl×Ps
def zbp:Str:=[119,104,101,114,101]
def sKeep:Str:=[107,101,101,112]
def sJoin:Str:=[106,111,105,110]
def sLeft:Str:=[108,101,102,116]
def zbm:Str:=[103,114,111,117,112]
def zbq:Str:=[117,110,105,111,110]
def zaE:Str:=[100,105,115,116,105,110,99,116]
def za1:Str:=[102,105,114,115,116]
def zaq:List Str:=[zbp,sKeep,sJoin,sLeft,zbm,zbq,zaE,za1]
def sAs:Str:=[97,115]
def sOn:Str:=[111,110]
def sBy:Str:=[98,121]
def sDown:Str:=[100,111,119,110]
def zdM:Str:=[99,111,117,110,116]
def sSum:Str:=[115,117,109]
def sMin:Str:=[109,105,110]
def sMax:Str:=[109,97,120]
def zah:List Str:=[zdM,sSum,sMin,sMax]
def zaK (s:Ps):List Str×Ps:=listP (fun a s=>(a++[(nameP s).1],(nameP s).2)) [] s
def zaC (a:List Ex×List Str) (s:Ps):(List Ex×List Str)×Ps :=
 ((a.1++[(zaj s).1],a.2++[(nameP (wantP sAs (zaj s).2)).1]),(nameP (wantP sAs (zaj s).2)).2)
def zaY (a:List (Str×Str)) (s:Ps):List (Str×Str)×Ps :=
 (a++[((nameP s).1,(nameP (wantP [61] (nameP s).2)).1)],(nameP (wantP [61] (nameP s).2)).2)
def aggOp (i:Nat):Str:=if i=0 then [] else zah.getD (i-1) []
def zbk (s:Ps):Str×Ps:=if isP s [41]=true then ([],s) else nameP s
def zai (a:List (Str×Str×Str)) (s:Ps):List (Str×Str×Str)×Ps :=
 (a++[(aggOp (oneP zah s).1,(zbk (wantP [40] (oneP zah s).2)).1,(nameP (wantP sAs (wantP [41] (zbk (wantP [40] (oneP zah s).2)).2))).1)],
  (nameP (wantP sAs (wantP [41] (zbk (wantP [40] (oneP zah s).2)).2))).2)
def za2 (a:List (Str×Bool)) (s:Ps):List (Str×Bool)×Ps :=
 (a++[((nameP s).1,isP (nameP s).2 sDown)],zez sDown (nameP s).2)
def partP (dp:PQ):PQ:=fun s=>if isP s [40]=true then dp s else (scanL (nameP s).1,(nameP s).2)
def joinP (dp:PQ) (s:Ps):(Pl×List (Str×Str))×Ps :=
 (((partP dp s).1,(listP zaY [] (wantP sOn (partP dp s).2)).1),(listP zaY [] (wantP sOn (partP dp s).2)).2)
def zaw (s:Ps):List Str×Ps:=if isP s [58]=true then ([],s) else zaK s
def zaO (s:Ps):List (Str×Str×Str)×Ps:=if (peekP s).k=1 then listP zai [] s else ([],s)
def za3 (s:Ps):(List Str×List (Str×Str×Str))×Ps :=
 (((zaw s).1,(zaO (wantP [58] (zaw s).2)).1),(zaO (wantP [58] (zaw s).2)).2)
def za7 (s:Ps):List (Str×Bool)×Ps:=if isP s sBy=true then listP za2 [] (advP s) else ([],s)
def zcr (s:Ps):(Int×List (Str×Bool))×Ps:=(((zak 2 s).1.n,(za7 (zak 2 s).2).1),(za7 (zak 2 s).2).2)
def stepK (dp:PQ) (over:Pl) (i:Nat) (s:Ps):Pl×Ps :=
 if i=1 then (.mk 2 [] [over] (zaj s).1 [] [] [] [] [] 0,(zaj s).2)
 else if i=2 then (.mk 3 [] [over] zEx (listP zaC ([],[]) s).1.2 (listP zaC ([],[]) s).1.1 [] [] [] 0,(listP zaC ([],[]) s).2)
 else if i=3 then (.mk 4 [] [over,(joinP dp s).1.1] zEx [] [] (joinP dp s).1.2 [] [] 0,(joinP dp s).2)
 else if i=4 then (.mk 5 [] [over,(joinP dp s).1.1] zEx [] [] (joinP dp s).1.2 [] [] 0,(joinP dp s).2)
 else if i=5 then (.mk 6 [] [over] zEx (za3 s).1.1 [] [] (za3 s).1.2 [] 0,(za3 s).2)
 else if i=6 then (.mk 7 [] [over,(partP dp s).1] zEx [] [] [] [] [] 0,(partP dp s).2)
 else if i=7 then (.mk 8 [] [over] zEx [] [] [] [] [] 0,s)
 else if i=8 then (.mk 9 [] [over] zEx [] [] [] [] (zcr s).1.2 (zcr s).1.1,(zcr s).2)
 else (.mk 0 [] [over] zEx [] [] [] [] [] 0,s)
def stepP (dp:PQ) (over:Pl):PQ:=fun s=>stepK dp over (oneP zaq s).1 (oneP zaq s).2
def zaV (dp:PQ):Nat→Pl→Ps→Pl×Ps
 | 0,q,s=>(q,s)
 | n+1,q,s=>if isP s [124]=true then zaV dp n (stepP dp q (advP s)).1 (stepP dp q (advP s)).2 else (q,s)
def zbb (dp:PQ):PQ:=fun s=>zaV dp (s.T.length+1) (partP dp s).1 (partP dp s).2
def zdP (q:PQ):PQ:=fun s=>((q (wantP [40] s)).1,wantP [41] (q (wantP [40] s)).2)
def zjy:PQ:=fun s=>(zPl,failP s 52)
def dparN:Nat→PQ
 | 0=>zjy
 | n+1=>zdP (zbb (dparN n))
def topQ:PQ:=zbb (dparN 31)
def zdj (l:Str):Pl×Nat×Int :=
 if (allP (topQ (openP l)).2).e=0 then ((topQ (openP l)).1,l.length,0) else (zPl,(allP (topQ (openP l)).2).a,(allP (topQ (openP l)).2).e)
structure Sc where
 k:Int
 f:Int
 l:Int
structure Inp where
 a:Str
 k:Int
 n:Int
 s:Str
structure Df where
 k:Int
 nm:Str
 sch:List (Str×Int)
 sc:Sc
 ins:List Inp
 plan:Pl
 cron:Str
 mks:List Str
def zSc:Sc:=⟨0,0,0⟩
def zDf:Df:=⟨0,[],[],zSc,[],zPl,[],[]⟩
def zlQ:Str:=[104,111,117,114,108,121]
def zpJ:Str:=[100,97,105,108,121]
def zlO:Str:=[119,101,101,107,108,121]
def zjE:Str:=[109,111,110,116,104,108,121]
def zlP:Str:=[115,116,97,116,105,99]
def zax:List Str:=[zlQ,zpJ,zlO,zjE,zlP]
def sSame:Str:=[115,97,109,101]
def sLast:Str:=[108,97,115,116]
def zpI:Str:=[115,104,105,102,116]
def zlN:Str:=[119,105,116,104,105,110]
def sAll:Str:=[97,108,108]
def zaf:List Str:=[sSame,sLast,zpI,zlN,sAll]
def zbd:Str:=[115,111,117,114,99,101]
def zbr:Str:=[97,115,115,101,116]
def zaG:Str:=[115,99,104,101,100,117,108,101]
def zay:List Str:=[zbd,zbr,zaG]
def sInt:Str:=[105,110,116]
def sText:Str:=[116,101,120,116]
def sFrom:Str:=[102,114,111,109]
def sDo:Str:=[100,111]
def za0:Str:=[109,97,107,101,115]
def zaS (s:Ps):Sc×Ps :=
 (⟨((oneP zax s).1:Int),(zak 2 (oneP zax s).2).1.n,(zak 2 (wantP [46,46] (zak 2 (oneP zax s).2).2)).1.n⟩,(zak 2 (wantP [46,46] (zak 2 (oneP zax s).2).2)).2)
def zbj (a:List (Str×Int)) (s:Ps):List (Str×Int)×Ps :=
 (a++[((nameP s).1,((oneP [sInt,sText] (nameP s).2).1:Int))],(oneP [sInt,sText] (nameP s).2).2)
def zbH (s:Ps):Df×Ps :=
 let r:=listP zbj [] (wantP [40] (nameP s).2)
 (⟨1,(nameP s).1,r.1,(zaS (wantP [41] r.2)).1,[],zPl,[],[]⟩,(zaS (wantP [41] r.2)).2)
def mapK (i:Nat) (s:Ps):Int×Ps :=
 if i=2 then ((zak 2 s).1.n,(zak 2 s).2)
 else if i=3 then (if isP s [45]=true then (-(zak 2 (advP s)).1.n,(zak 2 (advP s)).2) else ((zak 2 s).1.n,(zak 2 s).2))
 else (0,s)
def zad (s:Ps):(Int×Int)×Ps:=((((oneP zaf s).1:Int),(mapK (oneP zaf s).1 (oneP zaf s).2).1),(mapK (oneP zaf s).1 (oneP zaf s).2).2)
def zbR (a:List Inp) (s:Ps):List Inp×Ps :=
 let m:=zad (nameP s).2
 let n:=nameP (wantP sAs m.2)
 (a++[⟨(nameP s).1,m.1.1,m.1.2,n.1⟩],n.2)
def zcu (s:Ps):Df×Ps :=
 let c:=zaS (nameP s).2
 let l:=listP zbR [] (wantP sFrom c.2)
 let q:=topQ (wantP sDo l.2)
 (⟨2,(nameP s).1,[],c.1,l.1,q.1,[],[]⟩,q.2)
def za6 (s:Ps):Df×Ps :=
 let c:=zak 3 (nameP s).2
 let m:=zaK (wantP za0 c.2)
 (⟨3,(nameP s).1,[],zSc,[],zPl,c.1.t,m.1⟩,m.2)
def defK (i:Nat) (s:Ps):Df×Ps:=if i=1 then zbH s else if i=2 then zcu s else if i=3 then za6 s else (zDf,s)
def defP (s:Ps):Df×Ps:=((defK (oneP zay s).1 (oneP zay s).2).1,wantP [59] (defK (oneP zay s).1 (oneP zay s).2).2)
def zba:Nat→List Df→Ps→List Df×Ps
 | 0,a,s=>(a,s)
 | n+1,a,s=>if s.e=0∧s.i<s.T.length then zba n (a++[(defP s).1]) (defP s).2 else (a,s)
def defsP (s:Ps):List Df×Ps:=zba (s.T.length+1) [] s
def za9 (l:Str):List Df×Nat×Int :=
 if (allP (defsP (openP l)).2).e=0 then ((defsP (openP l)).1,l.length,0) else ([],(allP (defsP (openP l)).2).a,(allP (defsP (openP l)).2).e)
theorem zeY (s:Ps):Goes s (zaK s).2:=zbt (f:=fun a s=>(a++[(nameP s).1],(nameP s).2)) (fun a s=>zaM s) [] s
theorem zcU (a:List Ex×List Str) (s:Ps):Goes s (zaC a s).2:=((zdq s).trans (zam _ _)).trans (zaM _)
theorem zb0 (a:List (Str×Str)) (s:Ps):Goes s (zaY a s).2:=((zaM s).trans (zam _ _)).trans (zaM _)
theorem zej (s:Ps):Goes s (zbk s).2:=by
 unfold zbk;split
 ·exact Goes.refl s
 ·exact zaM s
theorem zaU (a:List (Str×Str×Str)) (s:Ps):Goes s (zai a s).2 :=
 (((((zb1 _ s).trans (zam _ _)).trans (zej _)).trans (zam _ _)).trans (zam _ _)).trans (zaM _)
theorem zcF (a:List (Str×Bool)) (s:Ps):Goes s (za2 a s).2:=(zaM s).trans (zgN _ _)
def GoesQ (f:PQ):Prop:=∀ s,Goes s (f s).2
theorem zcN {dp:PQ} (h:GoesQ dp):GoesQ (partP dp):=fun s=>by
 unfold partP;split
 ·exact h s
 ·exact zaM s
theorem zij {dp:PQ} (h:GoesQ dp) (s:Ps):Goes s (joinP dp s).2:=((zcN h s).trans (zam _ _)).trans (zbt zb0 _ _)
theorem zdS (s:Ps):Goes s (zaw s).2:=by
 unfold zaw;split
 ·exact Goes.refl s
 ·exact zeY s
theorem zec (s:Ps):Goes s (zaO s).2:=by
 unfold zaO;split
 ·exact zbt zaU _ _
 ·exact Goes.refl s
theorem zk4 (s:Ps):Goes s (za3 s).2:=((zdS s).trans (zam _ _)).trans (zec _)
theorem ze9 (s:Ps):Goes s (za7 s).2:=by
 unfold za7;split
 ·rename_i h;exact (zaA h).trans (zbt zcF _ _)
 ·exact Goes.refl s
theorem zk5 (s:Ps):Goes s (zcr s).2:=(zbi 2 (by decide) s).trans (ze9 _)
theorem zgM {dp:PQ} (h:GoesQ dp) (q:Pl) (i:Nat) (s:Ps):Goes s (stepK dp q i s).2:=by
 unfold stepK;split;exact zdq s
 split;exact zbt zcU _ _
 split;exact zij h s
 split;exact zij h s
 split;exact zk4 s
 split;exact zcN h s
 split;exact Goes.refl s
 split;exact zk5 s
 exact Goes.refl s
theorem zf6 {dp:PQ} (h:GoesQ dp) (q:Pl):GoesQ (stepP dp q):=fun s=>(zb1 _ s).trans (zgM h q _ _)
theorem zb8 {dp:PQ} (h:GoesQ dp):∀ (n:Nat) (q:Pl) (s:Ps),Goes s (zaV dp n q s).2
 | 0,q,s=>Goes.refl s
 | n+1,q,s=>by
  unfold zaV;split
  ·rename_i hi;exact ((zaA hi).trans (zf6 h q _)).trans (zb8 h n _ _)
  ·exact Goes.refl s
theorem zeX {dp:PQ} (h:GoesQ dp):GoesQ (zbb dp):=fun s=>(zcN h s).trans (zb8 h _ _ _)
theorem zjb {q:PQ} (h:GoesQ q):GoesQ (zdP q):=fun s=>((zam _ _).trans (h _)).trans (zam _ _)
theorem zbo:∀ n,GoesQ (dparN n)
 | 0=>fun s=>zc8 s 52 (.inr rfl)
 | n+1=>zjb (zeX (zbo n))
theorem zeE:GoesQ topQ:=zeX (zbo 31)
theorem zdO {dp:PQ} {n:Nat} {q:Pl} {s:Ps} (h:isP s [124]=false):zaV dp n q s=(q,s):=by
 cases n with
 | zero=>rfl
 | succ n=>unfold zaV;rw[if_neg (by rw[h];decide)]
theorem zdZ {dp:PQ} {n:Nat} {q:Pl} {s:Ps} (h:isP s [124]=true):zaV dp (n+1) q s=zaV dp n (stepP dp q (advP s)).1 (stepP dp q (advP s)).2:=by
 conv=>lhs;unfold zaV
 rw[if_pos h]
theorem zc7 (s:Ps):Goes s (zaS s).2:=(((zb1 _ s).trans (zbi 2 (by decide) _)).trans (zam _ _)).trans (zbi 2 (by decide) _)
theorem zcj (a:List (Str×Int)) (s:Ps):Goes s (zbj a s).2:=(zaM s).trans (zb1 _ _)
theorem zja (s:Ps):Goes s (zbH s).2:=((((zaM s).trans (zam _ _)).trans (zbt zcj _ _)).trans (zam _ _)).trans (zc7 _)
theorem zii (i:Nat) (s:Ps):Goes s (mapK i s).2:=by
 unfold mapK;split;exact zbi 2 (by decide) s
 split
 ·split
  ·rename_i h;exact (zaA h).trans (zbi 2 (by decide) _)
  ·exact zbi 2 (by decide) s
 ·exact Goes.refl s
theorem zdR (s:Ps):Goes s (zad s).2:=(zb1 _ s).trans (zii _ _)
theorem zcA (a:List Inp) (s:Ps):Goes s (zbR a s).2:=(((zaM s).trans (zdR _)).trans (zam _ _)).trans (zaM _)
theorem zk6 (s:Ps):Goes s (zcu s).2:=(((((zaM s).trans (zc7 _)).trans (zam _ _)).trans (zbt zcA _ _)).trans (zam _ _)).trans (zeE _)
theorem zhr (s:Ps):Goes s (za6 s).2:=(((zaM s).trans (zbi 3 (by decide) _)).trans (zam _ _)).trans (zeY _)
theorem zf7 (i:Nat) (s:Ps):Goes s (defK i s).2:=by
 unfold defK;split;exact zja s
 split;exact zk6 s
 split;exact zhr s
 exact Goes.refl s
theorem zhs (s:Ps):Goes s (defP s).2:=((zb1 _ s).trans (zf7 _ _)).trans (zam _ _)
theorem zcp:∀ (n:Nat) (a:List Df) (s:Ps),Goes s (zba n a s).2
 | 0,a,s=>Goes.refl s
 | n+1,a,s=>by
  unfold zba;split
  ·exact (zhs s).trans (zcp n _ _)
  ·exact Goes.refl s
end Go.Proofs.YtonkjhmkppeagaaGreatDoor.Pz
namespace Go.Proofs.YtonkjhmkppeagaaGreatDoor.Pz
open Go.Proofs.Tryz
open Go.RowKit Go Ba
structure Kept (S:Nat→Prop) (w w':World):Prop where
 os:w'.os=w.os
 tape:w'.tape=w.tape
 output:w'.output=w.output
 size:w.heap.size≤w'.heap.size
 block:∀ k,k<w.heap.size→¬ S k→w'.heap[k]?=w.heap[k]?
theorem Kept.refl (S:Nat→Prop) (w:World):Kept S w w:=⟨rfl,rfl,rfl,Nat.le_refl _,fun _ _ _=>rfl⟩
theorem Kept.trans {S:Nat→Prop} {a b c:World} (h:Kept S a b) (g:Kept S b c):Kept S a c :=
 ⟨g.os.trans h.os,g.tape.trans h.tape,g.output.trans h.output,Nat.le_trans h.size g.size,fun k hk hS=>(g.block k (Nat.lt_of_lt_of_le hk h.size) hS).trans (h.block k hk hS)⟩
theorem Kept.mono {S S':Nat→Prop} {a b:World} (h:Kept S a b) (hS:∀ k,k<a.heap.size→S k→S' k):Kept S' a b :=
 ⟨h.os,h.tape,h.output,h.size,fun k hk hn=>h.block k hk fun x=>hn (hS k hk x)⟩
theorem Kept.then {S S':Nat→Prop} {a b c:World} (h:Kept S a b) (g:Kept S' b c) (hS:∀ k,k<a.heap.size→S' k→S k):Kept S a c :=
 ⟨g.os.trans h.os,g.tape.trans h.tape,g.output.trans h.output,Nat.le_trans h.size g.size,fun k hk hn=>(g.block k (Nat.lt_of_lt_of_le hk h.size) fun x=>hn (hS k hk x)).trans (h.block k hk hn)⟩
theorem Kept.of_below {S:Nat→Prop} {a b:World} (h:Below a.heap.size a b):Kept S a b:=⟨h.os,h.tape,h.output,h.size,fun k hk _=>h.block k hk⟩
theorem Kept.below {S:Nat→Prop} {a b:World} {B:Nat} (h:Kept S a b) (hB:B≤a.heap.size) (hS:∀ k,S k→B≤k):Below B a b :=
 ⟨h.os,h.tape,h.output,h.size,fun k hk=>h.block k (Nat.lt_of_lt_of_le hk hB) fun x=>by have:=hS k x;omega⟩
theorem Kept.behind {S:Nat→Prop} {a b c:World} (h:Kept S a b) (g:Below b.heap.size b c):Kept S a c:=h.trans (Kept.of_below g)
theorem Kept.drewN {S:Nat→Prop} {a b:World} (h:Kept S a b) (n:Nat):Kept S a (b.drewN n):=⟨h.os,h.tape,h.output,h.size,h.block⟩
theorem Kept.drew {S:Nat→Prop} {a b:World} (h:Kept S a b):Kept S a b.drew:=⟨h.os,h.tape,h.output,h.size,h.block⟩
theorem Kept.alloc {S:Nat→Prop} {a b:World} (h:Kept S a b) (o:Obj):Kept S a (b.alloc o) :=
 ⟨h.os,h.tape,h.output,by have:=h.size;simp;omega,fun k hk hn=>(Below.heap_alloc b o k (Nat.lt_of_lt_of_le hk h.size)).trans (h.block k hk hn)⟩
theorem Kept.set {S:Nat→Prop} {a b:World} (h:Kept S a b) (p:Addr) (hp:S p.block∨a.heap.size≤p.block) (v:Value):Kept S a (b.setCell p v) :=
 ⟨h.os,h.tape,h.output,by rw[World.size_setCell];exact h.size,fun k hk hn=>(Below.heap_setCell _ _ _ _ (by rintro rfl;rcases hp with hp|hp;exact hn hp;omega)).trans (h.block k hk hn)⟩
theorem Kept.grown {S:Nat→Prop} {a b c:World} (h:Kept S a b) {row:Option Nat} (g:b.grownBy c row) (hp:∀ k,row=some k→S k∨a.heap.size≤k):Kept S a c :=
 ⟨g.os.trans h.os,g.tape.trans h.tape,g.output.trans h.output,Nat.le_trans h.size g.size,fun k hk hn=>(g.block k (Nat.lt_of_lt_of_le hk h.size) fun e=>by rcases hp k e.symm with x|x;exact hn x;omega).trans (h.block k hk hn)⟩
theorem kcell {S:Nat→Prop} {a b:World} (h:Kept S a b) {k o:Nat} (hk:k<a.heap.size) (hn:¬ S k):b.cell? ⟨k,o,none⟩=a.cell? ⟨k,o,none⟩:=by
 unfold World.cell?;simp only[h.block k hk hn]
theorem zcc {S:Nat→Prop} {a b:World} (h:Kept S a b) {k o:Nat} (hk:k<a.heap.size) (hn:¬ S k):b.frozen? ⟨k,o,none⟩=a.frozen? ⟨k,o,none⟩:=by
 unfold World.frozen?;simp only[h.block k hk hn]
theorem _root_.Go.Proofs.YtonkjhmkppeagaaGreatDoor.Ba.Box.kept {S:Nat→Prop} {W W':World} {B:Nat} {vs:List Value} (h:Box W B vs) (g:Kept S W W') (hn:¬ S B):Box W' B vs :=
 ⟨Nat.lt_of_lt_of_le h.lt g.size,fun i v hi=>(kcell g h.lt hn).trans (h.cl i v hi),fun i hi=>(zcc g h.lt hn).trans (h.fr i hi)⟩
theorem _root_.Go.Proofs.YtonkjhmkppeagaaGreatDoor.Ba.Box.drew {W:World} {B:Nat} {vs:List Value} (h:Box W B vs):Box W.drew B vs:=⟨h.lt,h.cl,h.fr⟩
theorem _root_.Go.Proofs.YtonkjhmkppeagaaGreatDoor.Ba.Box.drewN {W:World} {B:Nat} {vs:List Value} (h:Box W B vs) (n:Nat):Box (W.drewN n) B vs:=⟨h.lt,h.cl,h.fr⟩
theorem zg3 {B:Nat} {a W:World} (h:Below B a W):Below B a W.drew:=⟨h.os,h.tape,h.output,h.size,h.block⟩
theorem zbP {B:Nat} {a W:World} (h:Below B a W) {C:Nat} (hC:B≤C) (o:Nat) (v:Value):Below B a (W.setCell ⟨C,o,none⟩ v):=h.setCell hC v
def setN (W:World) (B:Nat):Nat→List Value→World
 | _,[]=>W
 | i,v::r=>setN (W.setCell ⟨B,i,none⟩ v) B (i+1) r
theorem Box.setAt {B:Nat}:∀ (vs ps us:List Value) (W:World),Box W B (ps++us)→us.length=vs.length→Box (setN W B ps.length vs) B (ps++vs)
 | [],ps,us,W,h,e=>by
  have:us=[]:=List.eq_nil_of_length_eq_zero e;subst this;exact h
 | v::vs,ps,us,W,h,e=>by
  match us,e with
  | u::us,e =>
   have h1:=h.put ps.length v;have e1:(ps++u::us).set ps.length v=(ps++[v])++us:=by
    rw[List.set_append_right _ _ (Nat.le_refl _),Nat.sub_self,List.set_cons_zero,List.append_assoc];rfl
   rw[e1]at h1;have h2:=Box.setAt vs (ps++[v]) us _ h1 (by simpa using e);rw[List.length_append,List.append_assoc]at h2;exact h2
theorem _root_.Go.Proofs.YtonkjhmkppeagaaGreatDoor.Ba.Box.setN {B:Nat} {vs us:List Value} {W:World} (h:Box W B us) (e:us.length=vs.length):Box (setN W B 0 vs) B vs:=Box.setAt vs [] us W h e
theorem _root_.Go.Proofs.YtonkjhmkppeagaaGreatDoor.Ba.Box.otherN {B C:Nat} {us:List Value} (hB:C≠B) (vs:List Value):∀ (i:Nat) {W:World},Box W B us→Box (Pz.setN W C i vs) B us:=by
 induction vs with
 | nil=>intro i W h;exact h
 | cons v vs ih=>intro i W h;exact ih (i+1) (h.other hB i v)
theorem Kept.setN {S:Nat→Prop} {a:World} {B:Nat} (hp:S B∨a.heap.size≤B):∀ (vs:List Value) (i:Nat) {b:World},Kept S a b→Kept S a (setN b B i vs)
 | [],i,b,h=>h
 | v::vs,i,b,h=>Kept.setN hp vs (i+1) (h.set ⟨B,i,none⟩ hp v)
theorem zcZ (B:Nat):∀ (vs:List Value) (i:Nat) (W:World),(setN W B i vs).heap.size=W.heap.size
 | [],i,W=>rfl
 | v::vs,i,W=>by show (setN _ B (i+1) vs).heap.size=_;rw[zcZ B vs,World.size_setCell]
inductive Dat where
 | v (x:Value)
 | sl (k:Nat) (rows:List (List Dat))
inductive Rep (W:World) (ok:Nat→Prop):Dat→Value→Prop
 | v (x:Value) (h:x.oneCell'=true):Rep W ok (.v x) x
 | sl (k:Nat) (rows:List (List Dat)) (ao:Option Addr) (cap:Nat) (cells:List (List Value)) (h1:rows.length≤cap) (h2:cap≤maxLen) (hl:cells.length=rows.length)
  (hn:∀ (i:Nat) (r:List Dat) (cs:List Value),rows[i]?=some r→cells[i]?=some cs→r.length=k∧cs.length=k)
  (hc:∀ (i:Nat) (cs:List Value),cells[i]?=some cs→∃ b o,ao=some ⟨b,o,none⟩∧b<W.heap.size∧ok b∧∀ j,j<k→W.cell? ⟨b,o+(i*k+j),none⟩=cs[j]?)
  (hr:∀ (i:Nat) (r:List Dat) (cs:List Value) (j:Nat) (d:Dat) (c:Value),rows[i]?=some r→cells[i]?=some cs→r[j]?=some d→cs[j]?=some c→Rep W ok d c):Rep W ok (.sl k rows) (.slice ao rows.length cap)
def Row (W:World) (ok:Nat→Prop) (ds:List Dat) (cs:List Value):Prop:=ds.length=cs.length∧∀ (j:Nat) (d:Dat) (c:Value),ds[j]?=some d→cs[j]?=some c→Rep W ok d c
theorem Rep.kept {S ok:Nat→Prop} {W W':World} (g:Kept S W W') (hS:∀ b,b<W.heap.size→ok b→¬ S b) {d:Dat} {c:Value} (h:Rep W ok d c):Rep W' ok d c:=by
 induction h with
 | v x h=>exact .v x h
 | sl k rows ao cap cells h1 h2 hl hn hc hr ih =>
  refine .sl k rows ao cap cells h1 h2 hl hn (fun i cs hi=>?_) ih;obtain ⟨b,o,e1,e2,e3,e4⟩:=hc i cs hi;exact ⟨b,o,e1,Nat.lt_of_lt_of_le e2 g.size,e3,fun j hj=>(kcell g e2 (hS b e2 e3)).trans (e4 j hj)⟩
theorem Rep.weak {ok ok':Nat→Prop} {W:World} (hS:∀ b,b<W.heap.size→ok b→ok' b) {d:Dat} {c:Value} (h:Rep W ok d c):Rep W ok' d c:=by
 induction h with
 | v x h=>exact .v x h
 | sl k rows ao cap cells h1 h2 hl hn hc hr ih =>
  refine .sl k rows ao cap cells h1 h2 hl hn (fun i cs hi=>?_) ih;obtain ⟨b,o,e1,e2,e3,e4⟩:=hc i cs hi;exact ⟨b,o,e1,e2,hS b e2 e3,e4⟩
theorem Rep.both {S ok ok':Nat→Prop} {W W':World} (g:Kept S W W') (hS:∀ b,b<W.heap.size→ok b→¬ S b) (h2:∀ b,b<W.heap.size→ok b→ok' b) {d:Dat} {c:Value} (h:Rep W ok d c):Rep W' ok' d c :=
 ((h.weak (ok':=fun b=>ok b∧b<W.heap.size) fun b hb ho=>⟨ho,hb⟩).kept g fun b hb ho=>hS b hb ho.1).weak fun b hb ho=>h2 b ho.2 ho.1
theorem Rep.one {ok:Nat→Prop} {W:World} {d:Dat} {c:Value} (h:Rep W ok d c):c.oneCell'=true:=by
 cases h with
 | v x h=>exact h
 | sl=>rfl
theorem Rep.nil (W:World) (ok:Nat→Prop) (k:Nat):Rep W ok (.sl k []) (.slice none 0 0) :=
 .sl k [] none 0 [] (Nat.le_refl _) (Nat.zero_le _) rfl (fun i r cs h=>by simp at h) (fun i cs h=>by simp at h) (fun i r cs j d c h=>by simp at h)
theorem Rep.val {ok:Nat→Prop} {W:World} {x c:Value} (h:Rep W ok (.v x) c):c=x:=by cases h;rfl
theorem Rep.len {ok:Nat→Prop} {W:World} {k:Nat} {rows:List (List Dat)} {c:Value} (h:Rep W ok (.sl k rows) c):∃ ao cap,c=.slice ao rows.length cap∧rows.length≤cap∧cap≤maxLen:=by
 cases h with
 | sl _ _ ao cap cells h1 h2=>exact ⟨ao,cap,rfl,h1,h2⟩
theorem Rep.at {ok:Nat→Prop} {W:World} {k:Nat} {rows:List (List Dat)} {ao:Option Addr} {n cap i:Nat} {r:List Dat} (h:Rep W ok (.sl k rows) (.slice ao n cap)) (hi:rows[i]?=some r) :
 ∃ b o cs,ao=some ⟨b,o,none⟩∧b<W.heap.size∧ok b∧(∀ j,j<k→W.cell? ⟨b,o+(i*k+j),none⟩=cs[j]?)∧cs.length=k∧Row W ok r cs:=by
 cases h with
 | sl _ _ _ _ cells h1 h2 hl hn hc hr =>
  have hlt:=(List.getElem?_eq_some_iff.1 hi).1;have hs:cells[i]?=some (cells[i]'(by omega)):=List.getElem?_eq_getElem (by omega);obtain ⟨b,o,e1,e2,e3,e4⟩:=hc i _ hs;obtain ⟨n1,n2⟩:=hn i r _ hi hs;exact ⟨b,o,_,e1,e2,e3,e4,n2,n1.trans n2.symm,fun j d c hd hc'=>hr i r _ j d c hi hs hd hc'⟩
theorem Row.kept {S ok:Nat→Prop} {W W':World} (g:Kept S W W') (hS:∀ b,b<W.heap.size→ok b→¬ S b) {ds:List Dat} {cs:List Value} (h:Row W ok ds cs):Row W' ok ds cs:=⟨h.1,fun j d c hd hc=>(h.2 j d c hd hc).kept g hS⟩
theorem Row.weak {ok ok':Nat→Prop} {W:World} (hS:∀ b,b<W.heap.size→ok b→ok' b) {ds:List Dat} {cs:List Value} (h:Row W ok ds cs):Row W ok' ds cs:=⟨h.1,fun j d c hd hc=>(h.2 j d c hd hc).weak hS⟩
theorem Row.both {S ok ok':Nat→Prop} {W W':World} (g:Kept S W W') (hS:∀ b,b<W.heap.size→ok b→¬ S b) (h2:∀ b,b<W.heap.size→ok b→ok' b) {ds:List Dat} {cs:List Value} (h:Row W ok ds cs):Row W' ok' ds cs :=
 ⟨h.1,fun j d c hd hc=>(h.2 j d c hd hc).both g hS h2⟩
theorem Row.one {ok:Nat→Prop} {W:World} {ds:List Dat} {cs:List Value} (h:Row W ok ds cs):∀ u∈cs,u.oneCell'=true:=fun u hu=>by
 obtain ⟨j,hj⟩:=List.mem_iff_getElem?.1 hu;have hlt:=(List.getElem?_eq_some_iff.1 hj).1;have hd:ds[j]?=some (ds[j]'(by rw[h.1];exact hlt)):=List.getElem?_eq_getElem _;exact (h.2 j _ u hd hj).one
theorem Row.nil (W:World) (ok:Nat→Prop):Row W ok [] []:=⟨rfl,fun j d c h=>by simp at h⟩
theorem Row.cons {ok:Nat→Prop} {W:World} {d:Dat} {c:Value} {ds:List Dat} {cs:List Value} (h:Rep W ok d c) (t:Row W ok ds cs):Row W ok (d::ds) (c::cs) :=
 ⟨by rw[List.length_cons,List.length_cons,t.1],fun j d' c' hd hc=>by
  cases j with
  | zero =>
   simp only[List.getElem?_cons_zero,Option.some.injEq]at hd hc;subst hd hc;exact h
  | succ j =>
   rw[List.getElem?_cons_succ]at hd hc;exact t.2 j d' c' hd hc⟩
theorem Row.uncons {ok:Nat→Prop} {W:World} {d:Dat} {ds:List Dat} {cs:List Value} (h:Row W ok (d::ds) cs):∃ c r,cs=c::r∧Rep W ok d c∧Row W ok ds r:=by
 match cs,h with
 | [],h=>cases h.1
 | c::r,h=>exact ⟨c,r,rfl,h.2 0 d c rfl rfl,by have:=h.1;simpa using this,fun j d' c' hd hc=>h.2 (j+1) d' c' (by simpa using hd) (by simpa using hc)⟩
theorem Row.unnil {ok:Nat→Prop} {W:World} {cs:List Value} (h:Row W ok [] cs):cs=[]:=List.eq_nil_of_length_eq_zero h.1.symm
theorem Row.app {ok:Nat→Prop} {W:World} {ds es:List Dat} {cs fs:List Value} (h:Row W ok ds cs) (g:Row W ok es fs):Row W ok (ds++es) (cs++fs):=by
 induction ds generalizing cs with
 | nil=>have:=h.unnil;subst this;exact g
 | cons d ds ih =>
  obtain ⟨c,r,rfl,h1,h2⟩:=h.uncons;exact (ih h2).cons h1
structure Own (W:World) (base:Nat) (e:TypeId) (k:Nat) (v:Value) (rows:List (List Dat)) (cells:List (List Value)):Prop where
 own:W.ownsRow base e k v rows.length cells.flatten
 len:cells.length=rows.length
 row:∀ (i:Nat) (r:List Dat) (cs:List Value),rows[i]?=some r→cells[i]?=some cs→r.length=k∧Row W (fun b=>base≤b∧v.ownBlock≠some b) r cs
theorem Own.nil (W:World) (base:Nat) (e:TypeId) (k:Nat):Own W base e k (.slice none 0 0) [] []:=⟨World.ownsRow_nil _ _ _ _,rfl,fun i r cs h=>by simp at h⟩
theorem Own.cs {W:World} {base:Nat} {e:TypeId} {k:Nat} {v:Value} {rows:List (List Dat)} {cells:List (List Value)} (h:Own W base e k v rows cells):∀ x∈cells,x.length=k:=fun x hx=>by
 obtain ⟨i,hi⟩:=List.mem_iff_getElem?.1 hx;have hlt:=(List.getElem?_eq_some_iff.1 hi).1;have hr:rows[i]?=some (rows[i]'(by rw[← h.len];exact hlt)):=List.getElem?_eq_getElem _;obtain ⟨h1,h2⟩:=h.row i _ x hr hi;rw[← h2.1];exact h1
theorem Own.lt {W:World} {base:Nat} {e:TypeId} {k:Nat} {v:Value} {rows:List (List Dat)} {cells:List (List Value)} (h:Own W base e k v rows cells):∀ b,v.ownBlock=some b→base≤b∧b<W.heap.size:=h.own.lt
theorem Own.kept {S:Nat→Prop} {W W':World} {base:Nat} {e:TypeId} {k:Nat} {v:Value} {rows:List (List Dat)} {cells:List (List Value)} (h:Own W base e k v rows cells) (g:Kept S W W') (hS:∀ b,base≤b→¬ S b):Own W' base e k v rows cells :=
 ⟨zcJ h.own fun b hb=>g.block b (h.lt b hb).2 (hS b (h.lt b hb).1),h.len,fun i r cs hr hc=>⟨(h.row i r cs hr hc).1,(h.row i r cs hr hc).2.kept g fun b _ ho=>hS b ho.1⟩⟩
theorem Own.rep {W:World} {base:Nat} {e:TypeId} {k:Nat} {v:Value} {rows:List (List Dat)} {cells:List (List Value)} (h:Own W base e k v rows cells):Rep W (fun b=>base≤b) (.sl k rows) v:=by
 have hcs:=h.cs;obtain ⟨ao,cap,hv,h1,h2,h4⟩:=SlAt.of hcs (by rw[h.len];exact h.own);rw[h.len]at hv h1;subst hv;refine .sl k rows ao cap cells h1 h2 h.len (fun i r cs hr hc=>⟨(h.row i r cs hr hc).1,hcs cs (List.mem_of_getElem? hc)⟩) (fun i cs hi=>?_) (fun i r cs j d c hr hc hd hcc=>((h.row i r cs hr hc).2.2 j d c hd hcc).weak fun b _ ho=>ho.1);obtain ⟨b,o,e1,e2,e3⟩:=h4 i cs hi;subst e1;exact ⟨b,o,rfl,e2,(h.lt b rfl).1,e3⟩
theorem zc0 {P:Program} (w:World) (base:Nat) (t ty e:TypeId) (i:TypeInfo) (z:Value) (size bytes:Nat) (ht:P.underlying t=some (.slice e)) (hi:P.info? e=some i) (hz:i.zero=some z)
 (hsize:i.size=size) (hby:i.bytes=bytes) (hzs:z.cells.size=size) (hsz:0<size)
 (v:Value) (n:Nat) (xs:List Value) (hown:w.ownsRow base e size v n xs)
 (a:Addr) (c:Nat) (news:List Value) (hl:news.length=1*size) (hnews:∀ j u,news[j]?=some u→w.cell? (a.add j)=some u) (h1:∀ u∈news,u.oneCell'=true)
 (h63:n+1≤maxLen) (hbytes:(n+1)*bytes≤140737488355328) (hbase:base≤w.heap.size) :
 ∃ v' w',(Builtin.append_ #[t,t] ty #[v,.slice (some a) 1 c]).run P w=.ok v' w'∧w'.ownsRow base e size v' (n+1) (xs++news)∧w.grownBy w' v.ownBlock∧
  (v'.ownBlock=v.ownBlock∨∃ b,v'.ownBlock=some b∧w.heap.size≤b):=by
 obtain ⟨v',w',hr,ho,hg,_⟩:=run_append_own (P:=P) w base t ty e i z size bytes ht hi hz hsize hby hzs hsz v n xs hown a 1 c news hl hnews h1 h63 hbytes hbase;refine ⟨v',w',hr,ho,hg,?_⟩;have hfresh:∀ (m cp:Nat) (W:World),(Builtin.append_ #[t,t] ty #[v,.slice (some a) 1 c]).run P w=.ok (.slice (some ⟨w.heap.size,0,none⟩) m cp) W→v'.ownBlock=v.ownBlock∨∃ b,v'.ownBlock=some b∧w.heap.size≤b:=by
  intro m cp W h;rw[hr]at h;injection h with e1 _
  subst e1;exact .inr ⟨_,rfl,Nat.le_refl _⟩
 have hsame:∀ (g m m' cp cp':Nat) (W:World),v=.slice (some ⟨g,0,none⟩) m' cp'→(Builtin.append_ #[t,t] ty #[v,.slice (some a) 1 c]).run P w=.ok (.slice (some ⟨g,0,none⟩) m cp) W→v'.ownBlock=v.ownBlock∨∃ b,v'.ownBlock=some b∧w.heap.size≤b:=by
  intro g m m' cp cp' W hv h;rw[hr]at h;injection h with e1 _
  subst e1 hv;exact .inl rfl
 subst hsize hby;unfold maxLen at h63;rcases hown.2 with ⟨rfl,rfl⟩|⟨g,cap,cur,rfl,hbg,hgg,hnc,hcm,hcs,htake⟩
 ·exact hfresh _ _ _ (run_append_nil (P:=P) w t ty e i z ht hi hz a 1 c news hl hnews (by omega) (by omega) (by omega))
 ·by_cases hroom:n+1≤cap
  ·have hfit:n*i.size+news.length≤cur.size:=by rw[hl,hcs,← Nat.add_mul];exact Nat.mul_le_mul_right _ hroom
   exact hsame g _ _ _ _ _ rfl (run_append_room (P:=P) w t ty e i ht hi g n cap cur hgg a 1 c news hl hnews h1 hroom hfit)
  ·exact hfresh _ _ _ (run_append_grow (P:=P) w t ty e i z ht hi hz ⟨g,0,none⟩ n cap xs hown.1 (hown.cells (g:=g) rfl) a 1 c news hl hnews (by omega) (by omega) (growslice_fits (by omega) hbytes))
theorem zrw {P:Program} {ops:Array Oper} {rest:List Oper} {o:Oper} {a:Act} {Q:Exit→Act→World→Prop} {w:World} (hgd:o.guard=none) (s x:Operand) (t e:TypeId)
 (ho:o.op=.call { callee:=.builtin .append,args:=#[s,x],argTypes:=#[t,t] }) {i:TypeInfo} {z:Value} {k bytes:Nat} (ht:P.underlying t=some (.slice e)) (hi:P.info? e=some i) (hz:i.zero=some z) (hsize:i.size=k) (hby:i.bytes=bytes) (hzs:z.cells.size=k) (hk:0<k) (hb1:bytes≤1000)
 (base:Nat) (v:Value) (rows:List (List Dat)) (cells:List (List Value)) (r:List Dat) (cs:List Value) (ca:Array Value) (hca:ca.toList=cs) (hown:Own w base e k v rows cells) (hrl:r.length=k) (hr:Row w (fun b=>base≤b∧v.ownBlock≠some b) r cs) (hs:a.eval s=v) (hx:a.eval x=.slice (some ⟨w.heap.size,0,none⟩) 1 1)
 (hlen:rows.length+1≤1000000) (hbase:base≤w.heap.size)
 (h:∀ v' w',Own w' base e k v' (rows++[r]) (cells++[cs])→w.grownBy w' v.ownBlock→wpList P ops Q rest (a.put o.dst v') w') :
 wpList P ops Q (o::rest) a (w.alloc (.cells ca e)):=by
 have hcl:cs.length=k:=by rw[← hr.1];exact hrl
 obtain ⟨v',w',hrun,h1,h2,h3⟩:=zc0 (P:=P) (w.alloc (.cells ca e)) base t o.type e i z k bytes ht hi hz hsize hby hzs hk v rows.length cells.flatten (hown.own.alloc _) ⟨w.heap.size,0,none⟩ 1 cs (by omega)
  (fun j u hj=>by
   have e1:(⟨w.heap.size,0,none⟩:Addr).add j=⟨w.heap.size,j,none⟩:=by simp[Addr.add];exact fun e=>e.symm
   rw[e1,World.cell?_alloc_at _ _ _ _ rfl,← Array.getElem?_toList,hca];exact hj) hr.one (by unfold maxLen;omega) (by
    have:(rows.length+1)*bytes≤1000000*1000:=Nat.mul_le_mul hlen hb1;omega) (by simp only[World.size_alloc];omega)
 refine wpList_plain hgd fun _ hK=>?_
 unfold Oper.wp execOp;simp only[ho,resolve,invoke,builtin,Sem.run_bind,Sem.run_pure,Result.andThen_ok,List.map_toArray,List.map_cons,List.map_nil,hs,hx,hrun];refine hK _ _ (h v' w' ⟨?_,?_,?_⟩ ⟨h2.os,h2.tape,h2.output,?_,fun b hb hne=>?_⟩)
 ·rw[List.length_append,List.flatten_append];simpa using h1
 ·simp[hown.len]
 ·have hg:Kept (fun b=>v.ownBlock=some b) w w':=by
   refine Kept.grown (b:=w.alloc (.cells ca e)) ((Kept.refl _ _).alloc _) h2 fun b hb=>.inl hb
  have hok:∀ b,b<w.heap.size→(base≤b∧v.ownBlock≠some b)→(base≤b∧v'.ownBlock≠some b):=fun b hb ho=>⟨ho.1,fun e=>by
   rcases h3 with h3|⟨c,h3,h4⟩
   ·rw[h3]at e;exact ho.2 e
   ·rw[h3]at e;simp only[World.size_alloc]at h4;have:=Option.some.inj e;omega⟩
  intro i' r' cs' hr' hc';rw[List.getElem?_append]at hr' hc';rw[hown.len]at hc';split at hr'
  ·rename_i hlt
   rw[if_pos hlt]at hc';obtain ⟨g1,g2⟩:=hown.row i' r' cs' hr' hc';exact ⟨g1,g2.both hg (fun b _ ho e=>ho.2 e) hok⟩
  ·rename_i hlt
   rw[if_neg hlt]at hc';have hi0:i'-rows.length=0:=by
    have:=(List.getElem?_eq_some_iff.1 hr').1;simp at this;omega
   rw[hi0]at hr' hc';simp only[List.getElem?_cons_zero,Option.some.injEq]at hr' hc';subst hr' hc';exact ⟨hrl,hr.both hg (fun b _ ho e=>ho.2 e) hok⟩
 ·have:=h2.size;simp only[World.size_alloc]at this;omega
 ·rw[h2.block b (by simp only[World.size_alloc];omega) hne,Below.heap_alloc w _ b hb]
theorem Rep.lit {V:World} {ok ok':Nat→Prop} {k:Nat} {rows:List (List Dat)} {cells:List (List Value)} {t:TypeId} {ca:Array Value} (hl:cells.length=rows.length) (hca:ca.toList=cells.flatten) (hm:rows.length≤1000000)
 (hr:∀ (i:Nat) (r:List Dat) (cs:List Value),rows[i]?=some r→cells[i]?=some cs→r.length=k∧Row V ok r cs) (h1:∀ b,ok b→ok' b) (h2:ok' V.heap.size) :
 Rep (V.alloc (.cells ca t)) ok' (.sl k rows) (.slice (some ⟨V.heap.size,0,none⟩) rows.length rows.length):=by
 have hcs:∀ x∈cells,x.length=k:=fun x hx=>by
  obtain ⟨i,hi⟩:=List.mem_iff_getElem?.1 hx;have hlt:=(List.getElem?_eq_some_iff.1 hi).1;have hr':rows[i]?=some (rows[i]'(by omega)):=List.getElem?_eq_getElem _;obtain ⟨g1,g2⟩:=hr i _ x hr' hi;rw[← g2.1];exact g1
 refine .sl k rows _ _ cells (Nat.le_refl _) (by unfold maxLen;omega) hl (fun i r cs h g=>⟨(hr i r cs h g).1,hcs cs (List.mem_of_getElem? g)⟩) (fun i cs hi=>⟨_,_,rfl,by simp,h2,fun j hj=>?_⟩) (fun i r cs j d c h g hd hc=>?_)
 ·rw[World.cell?_alloc_at _ _ _ _ rfl,Nat.zero_add,← Array.getElem?_toList,hca];exact zhu cells hcs i cs hi j hj
 ·exact ((hr i r cs h g).2.2 j d c hd hc).both (S:=fun _=>False) (Kept.of_below ((Below.refl _ V).alloc (Nat.le_refl _) _)) (fun _ _ _ h=>h) fun b _ h=>h1 b h
end Go.Proofs.YtonkjhmkppeagaaGreatDoor.Pz
namespace Go.Proofs.YtonkjhmkppeagaaGreatDoor.Pz
open Go.Proofs.Tryz
open Go.RowKit Go Ba Lx
theorem _root_.Go.Proofs.YtonkjhmkppeagaaGreatDoor.Ba.Box.six {W:World} {B:Nat} {a b c d e f:Value} (h:Box W B [a,b,c,d,e,f]):W.cell? ⟨B,0,none⟩=some a∧W.cell? ⟨B,1,none⟩=some b∧W.cell? ⟨B,2,none⟩=some c∧W.cell? ⟨B,3,none⟩=some d∧W.cell? ⟨B,4,none⟩=some e∧W.cell? ⟨B,5,none⟩=some f∧W.frozen? ⟨B,1,none⟩=false∧W.frozen? ⟨B,3,none⟩=false∧W.frozen? ⟨B,4,none⟩=false∧W.frozen? ⟨B,5,none⟩=false :=
 ⟨h.cl 0 _ rfl,h.cl 1 _ rfl,h.cl 2 _ rfl,h.cl 3 _ rfl,h.cl 4 _ rfl,h.cl 5 _ rfl,h.fr 1 (by simp),h.fr 3 (by simp),h.fr 4 (by simp),h.fr 5 (by simp)⟩
theorem _root_.Go.Proofs.YtonkjhmkppeagaaGreatDoor.Ba.Box.four' {W:World} {B:Nat} {a b c d:Value} (h:Box W B [a,b,c,d]):W.cell? ⟨B,0,none⟩=some a∧W.cell? ⟨B,1,none⟩=some b∧W.cell? ⟨B,2,none⟩=some c∧W.cell? ⟨B,3,none⟩=some d :=
 ⟨h.cl 0 _ rfl,h.cl 1 _ rfl,h.cl 2 _ rfl,h.cl 3 _ rfl⟩
def TokIn (W:World) (B:Nat) (v:Value) (ts:List Tok):Prop :=
 ∃ ao cap,v=.slice ao ts.length cap∧ts.length≤cap∧cap≤maxLen∧∀ i t,ts[i]?=some t→∃ g,ao=some ⟨g,0,none⟩∧g<W.heap.size∧g<B∧∀ j,j<4→W.cell? ⟨g,i*4+j,none⟩=(zcQ t)[j]?
theorem TokIn.kept {S:Nat→Prop} {W W':World} {B:Nat} {v:Value} {ts:List Tok} (h:TokIn W B v ts) (g:Kept S W W') (hS:∀ k,S k→B≤k):TokIn W' B v ts:=by
 obtain ⟨ao,cap,h1,h2,h3,h4⟩:=h;refine ⟨ao,cap,h1,h2,h3,fun i t ht=>?_⟩;obtain ⟨b,e1,e2,e3,e4⟩:=h4 i t ht;exact ⟨b,e1,Nat.lt_of_lt_of_le e2 g.size,e3,fun j hj=>(kcell g e2 (fun x=>by have:=hS b x;omega)).trans (e4 j hj)⟩
theorem tok4 {W:World} {g i:Nat} {t:Tok} (h:∀ j,j<4→W.cell? ⟨g,i*4+j,none⟩=(zcQ t)[j]?):W.cell? ⟨g,i*4,none⟩=some (.int .i64 t.k)∧W.cell? ⟨g,i*4+1,none⟩=some (.string ⟨t.t.toArray⟩)∧W.cell? ⟨g,i*4+2,none⟩=some (.int .i64 t.n)∧W.cell? ⟨g,i*4+3,none⟩=some (.int .i64 (t.p:Int)) :=
 ⟨h 0 (by decide),h 1 (by decide),h 2 (by decide),h 3 (by decide)⟩
def PAt (w:World) (B d:Nat) (s:Ps):Prop :=
 s.i≤s.T.length∧s.T.length≤20000∧d≤32∧(∀ t∈s.T,0≤t.n∧t.n≤9223372036854775807)∧∃ sl,Box w B [sl,.int .i64 (s.i:Int),.int .i64 (s.E:Int),.int .i64 (d:Int),.int .i64 s.e,.int .i64 (s.a:Int)]∧TokIn w B sl s.T
theorem PAt.lt {w:World} {B d:Nat} {s:Ps} (h:PAt w B d s):B<w.heap.size:=by
 obtain ⟨_,_,_,_,sl,hb,_⟩:=h;exact hb.lt
theorem PAt.il {w:World} {B d:Nat} {s:Ps} (h:PAt w B d s):s.i≤s.T.length:=h.1
theorem PAt.tl {w:World} {B d:Nat} {s:Ps} (h:PAt w B d s):s.T.length≤20000:=h.2.1
theorem PAt.kept {S:Nat→Prop} {w w':World} {B d:Nat} {s:Ps} (h:PAt w B d s) (g:Kept S w w') (hS:∀ k,S k→B<k):PAt w' B d s:=by
 obtain ⟨h1,h2,hd,h3,sl,hb,ht⟩:=h;exact ⟨h1,h2,hd,h3,sl,hb.kept g (fun x=>by have:=hS B x;omega),ht.kept g fun k x=>Nat.le_of_lt (hS k x)⟩
theorem PAt.below {w w':World} {B d:Nat} {s:Ps} (h:PAt w B d s) (g:Below w.heap.size w w'):PAt w' B d s:=h.kept (S:=fun _=>False) (Kept.of_below g) fun _ x=>x.elim
theorem PAt.turn {w w':World} {B d:Nat} {s:Ps} {sl:Value} (h:PAt w B d s) (ht:TokIn w B sl s.T) (K:Kept (fun b=>b=B) w w') {i' d' a':Nat} {e':Int} (hi:i'≤s.T.length) (hd:d'≤32)
 (hb:Box w' B [sl,.int .i64 (i':Int),.int .i64 (s.E:Int),.int .i64 (d':Int),.int .i64 e',.int .i64 (a':Int)]):PAt w' B d' ⟨s.T,s.E,i',e',a'⟩:=by
 obtain ⟨h1,h2,hd',h3,_⟩:=h;exact ⟨hi,h2,hd,h3,sl,hb,ht.kept K fun k x=>by have x':k=B:=x;omega⟩
theorem PAt.apart {w w':World} {B d C:Nat} {s:Ps} (h:PAt w B d s) (g:Kept (fun b=>b=C) w w') (hC:B<C):PAt w' B d s:=h.kept g fun k x=>by have x':k=C:=x;omega
abbrev dI (n:Int):Dat:=.v (.int .i64 n)
abbrev dS (s:Str):Dat:=.v (.string ⟨s.toArray⟩)
abbrev dB (b:Bool):Dat:=.v (.bool b)
mutual
def exD:Ex→List Dat
 | .mk k nm v op xs=>[dI k,dS nm,dI v.k,dI v.n,dS v.t,dS op,.sl 7 (exDs xs)]
def exDs:List Ex→List (List Dat)
 | []=>[]
 | x::r=>exD x::exDs r
end
theorem zin (x:Ex):exD x=[dI x.k,dS x.nm,dI x.v.k,dI x.v.n,dS x.v.t,dS x.op,.sl 7 (exDs x.xs)]:=by cases x;rw[exD];rfl
theorem zcV:∀ xs:List Ex,exDs xs=xs.map exD
 | []=>by rw[exDs];rfl
 | x::r=>by rw[exDs,zcV r];rfl
theorem zpi (xs:List Ex):(exDs xs).length=xs.length:=by rw[zcV,List.length_map]
theorem zbl (x:Ex):(exD x).length=7:=by rw[zin];rfl
def strD (n:Str):List Dat:=[dS n]
def pairD (p:Str×Str):List Dat:=[dS p.1,dS p.2]
def aggD (p:Str×Str×Str):List Dat:=[dS p.1,dS p.2.1,dS p.2.2]
def ordD (p:Str×Bool):List Dat:=[dS p.1,dB p.2]
mutual
def plD:Pl→List Dat
 | .mk k nm xs cond names exprs on aggs ord cnt=>[dI k,dS nm,.sl 16 (plDs xs)]++exD cond++[.sl 1 (names.map strD),.sl 7 (exDs exprs),.sl 2 (on.map pairD),.sl 3 (aggs.map aggD),.sl 2 (ord.map ordD),dI cnt]
def plDs:List Pl→List (List Dat)
 | []=>[]
 | x::r=>plD x::plDs r
end
theorem zaP:∀ xs:List Pl,plDs xs=xs.map plD
 | []=>by rw[plDs];rfl
 | x::r=>by rw[plDs,zaP r];rfl
theorem za8 (x:Pl):(plD x).length=16:=by cases x;rw[plD];simp[zbl]
def colD (p:Str×Int):List Dat:=[dS p.1,dI p.2]
def scD (s:Sc):List Dat:=[dI s.k,dI s.f,dI s.l]
def inpD (p:Inp):List Dat:=[dS p.a,dI p.k,dI p.n,dS p.s]
def dfD (x:Df):List Dat:=[dI x.k,dS x.nm,.sl 2 (x.sch.map colD)]++scD x.sc++[.sl 4 (x.ins.map inpD)]++plD x.plan++[dS x.cron,.sl 1 (x.mks.map strD)]
theorem zjh (x:Df):(dfD x).length=25:=by unfold dfD scD;simp[za8]
abbrev exV (x:Ex) (sl:Value):Value:=.agg #[.int .i64 x.k,.string ⟨x.nm.toArray⟩,.int .i64 x.v.k,.int .i64 x.v.n,.string ⟨x.v.t.toArray⟩,.string ⟨x.op.toArray⟩,sl]
abbrev exC (x:Ex) (sl:Value):List Value:=[.int .i64 x.k,.string ⟨x.nm.toArray⟩,.int .i64 x.v.k,.int .i64 x.v.n,.string ⟨x.v.t.toArray⟩,.string ⟨x.op.toArray⟩,sl]
abbrev XArgs (W:World) (ok:Nat→Prop) (sl:Value) (xs:List Ex):Prop:=Rep W ok (.sl 7 (exDs xs)) sl
theorem XArgs.len {ok:Nat→Prop} {W:World} {v:Value} {xs:List Ex} (h:XArgs W ok v xs):∃ ao cap,v=.slice ao xs.length cap∧xs.length≤cap∧cap≤maxLen:=by
 have:=Rep.len h;rw[zpi]at this;exact this
theorem zbF {ok:Nat→Prop} {W:World} {x:Ex} {sl:Value} (h:XArgs W ok sl x.xs):Row W ok (exD x) (exC x sl):=by
 rw[zin];exact (((((((Row.nil W ok).cons h).cons (.v _ rfl)).cons (.v _ rfl)).cons (.v _ rfl)).cons (.v _ rfl)).cons (.v _ rfl)).cons (.v _ rfl)
theorem zim {ok:Nat→Prop} {W:World} {x:Ex} {cs:List Value} (h:Row W ok (exD x) cs):∃ sl,cs=exC x sl∧XArgs W ok sl x.xs:=by
 rw[zin]at h;obtain ⟨c0,r0,rfl,h0,h⟩:=h.uncons;obtain ⟨c1,r1,rfl,h1,h⟩:=h.uncons;obtain ⟨c2,r2,rfl,h2,h⟩:=h.uncons;obtain ⟨c3,r3,rfl,h3,h⟩:=h.uncons;obtain ⟨c4,r4,rfl,h4,h⟩:=h.uncons;obtain ⟨c5,r5,rfl,h5,h⟩:=h.uncons;obtain ⟨c6,r6,rfl,h6,h⟩:=h.uncons;obtain rfl:=h.unnil;obtain rfl:=h0.val;obtain rfl:=h1.val;obtain rfl:=h2.val;obtain rfl:=h3.val;obtain rfl:=h4.val;obtain rfl:=h5.val;exact ⟨c6,rfl,h6⟩
def RowTo (w:World) (B d:Nat) (ds:List Dat) (s:Ps) (e:Ending) (w':World):Prop :=
 ∃ cs,e=.returned (.agg cs.toArray)∧Row w' (fun b=>w.heap.size≤b) ds cs∧Kept (fun b=>b=B) w w'∧PAt w' B d s
def ExTo (w:World) (B d:Nat) (x:Ex) (s:Ps) (e:Ending) (w':World):Prop :=
 ∃ ao cap,e=.returned (exV x (.slice ao x.xs.length cap))∧XArgs w' (fun b=>w.heap.size≤b) (.slice ao x.xs.length cap) x.xs∧Kept (fun b=>b=B) w w'∧PAt w' B d s
theorem ExTo.row {w w':World} {B d:Nat} {x:Ex} {s:Ps} {e:Ending} (h:ExTo w B d x s e w'):RowTo w B d (exD x) s e w':=by
 obtain ⟨ao,cap,rfl,h1,h2,h3⟩:=h;exact ⟨_,rfl,zbF h1,h2,h3⟩
theorem ExTo.of {w w':World} {B d:Nat} {x:Ex} {s:Ps} {e:Ending} (h:RowTo w B d (exD x) s e w'):ExTo w B d x s e w':=by
 obtain ⟨cs,rfl,h1,h2,h3⟩:=h;obtain ⟨sl,rfl,h4⟩:=zim h1;obtain ⟨ao,cap,rfl,_⟩:=XArgs.len h4;exact ⟨ao,cap,rfl,h4,h2,h3⟩
end Go.Proofs.YtonkjhmkppeagaaGreatDoor.Pz
