/- The plain law on tokens: what a text is cut into. No program in sight. The plain law on tokens, more: lengths, errors. No program in sight. Rows of tokens: one more at the end; tokens read. The plain law on tokens: texts put together, tokens written down and read again. No program in sight. -/
import Derived.Test.YtonkjhmkppeagaaGreatDoorWVal
set_option linter.unusedVariables false
set_option linter.unusedSimpArgs false
namespace Go.Proofs.YtonkjhmkppeagaaGreatDoor.Lx
open Go.Proofs.Tryz
open Go Go.RowKit Ba
def letB (c:UInt8):Bool:=decide (97≤c.toNat∧c.toNat≤122)
def digB (c:UInt8):Bool:=decide (48≤c.toNat∧c.toNat≤57)
def wordB (c:UInt8):Bool:=letB c || digB c || decide (c=95)
def wsB (c:UInt8):Bool:=decide (c=32∨c=9∨c=10)
def notNl (c:UInt8):Bool:=decide (c≠10)
def runN (f:UInt8→Bool) (l:List UInt8):Nat:=(l.takeWhile f).length
theorem zcZ (f:UInt8→Bool) (l:List UInt8):runN f l≤l.length:=(List.takeWhile_sublist f).length_le
theorem za8 (f:UInt8→Bool) (c:UInt8) (r:List UInt8):runN f (c::r)=if f c=true then runN f r+1 else 0:=by
 unfold runN;by_cases h:f c=true
 ·rw[List.takeWhile_cons_of_pos h,if_pos h];rfl
 ·rw[List.takeWhile_cons_of_neg h,if_neg h];rfl
theorem zfE (f:UInt8→Bool) (l:List UInt8):(l.take (runN f l)).all f=true:=by
 induction l with
 | nil=>rfl
 | cons c r ih =>
  rw[za8];by_cases h:f c=true
  ·rw[if_pos h,List.take_succ_cons,List.all_cons,h,ih];rfl
  ·rw[if_neg h];rfl
theorem zpo (f:UInt8→Bool) (l r:List UInt8) (h:l.all f=true) (hr:∀ c,r.head?=some c→f c=false):runN f (l++r)=l.length:=by
 induction l with
 | nil =>
  cases r with
  | nil=>rfl
  | cons c r=>rw[List.nil_append,za8,if_neg (by rw[hr c rfl];decide)];rfl
 | cons c l ih =>
  simp only[List.all_cons,Bool.and_eq_true]at h;rw[List.cons_append,za8,if_pos h.1,ih h.2];rfl
def rdQ:List UInt8→Option (List UInt8×Nat)
 | []=>none
 | c::r=>if c=34 then some ([],1) else if c.toNat<32∨126<c.toNat then none else if c=92 then (match r with
  | []=>none
  | d::r'=>if d=34∨d=92 then (match rdQ r' with|some (t,n)=>some (d::t,n+2)|none=>none) else none)
  else (match rdQ r with|some (t,n)=>some (c::t,n+1)|none=>none)
def scanQ:List UInt8→Option Nat
 | []=>none
 | c::r=>if c=92 then (match r with
  | []=>none
  | _::r'=>(match scanQ r' with|some n=>some (n+2)|none=>none))
  else if c=34 then some 1 else (match scanQ r with|some n=>some (n+1)|none=>none)
theorem zhF:rdQ []=none:=by rw[rdQ.eq_def]
theorem zd5 (c:UInt8) (r:List UInt8):rdQ (c::r)=if c=34 then some ([],1) else if c.toNat<32∨126<c.toNat then none else if c=92 then (match r with
 | []=>none
 | d::r'=>if d=34∨d=92 then (match rdQ r' with|some (t,n)=>some (d::t,n+2)|none=>none) else none)
 else (match rdQ r with|some (t,n)=>some (c::t,n+1)|none=>none):=by conv=>lhs;rw[rdQ.eq_def]
theorem zeG:scanQ []=none:=by rw[scanQ.eq_def]
theorem zcv (c:UInt8) (r:List UInt8):scanQ (c::r)=if c=92 then (match r with
 | []=>none
 | _::r'=>(match scanQ r' with|some n=>some (n+2)|none=>none))
 else if c=34 then some 1 else (match scanQ r with|some n=>some (n+1)|none=>none):=by conv=>lhs;rw[scanQ.eq_def]
theorem zeJ:∀ (k:Nat) (l:List UInt8) (t:List UInt8) (n:Nat),l.length≤k→rdQ l=some (t,n)→
 scanQ l=some n∧n≤l.length∧l.take n=Va.esc t++[34]∧(∀ c∈t,32≤c.toNat∧c.toNat≤126)∧t.length≤n:=by
 intro k;induction k with
 | zero =>
  intro l t n hl h;obtain rfl:=List.eq_nil_of_length_eq_zero (Nat.le_zero.1 hl);rw[zhF]at h;cases h
 | succ k ih =>
  intro l t n hl h;match l,h with
  | [],h=>rw[zhF]at h;cases h
  | c::r,h =>
   rw[zd5]at h;by_cases h34:c=34
   ·rw[if_pos h34]at h;simp only[Option.some.injEq,Prod.mk.injEq]at h;obtain ⟨rfl,rfl⟩:=h;subst h34;refine ⟨by rw[zcv,if_neg (by decide),if_pos rfl],by simp,by simp[Va.esc],by simp,by simp⟩
   rw[if_neg h34]at h;by_cases hp:c.toNat<32∨126<c.toNat
   ·rw[if_pos hp]at h;cases h
   rw[if_neg hp]at h;by_cases h92:c=92
   ·rw[if_pos h92]at h;match r,h with
    | [],h=>simp at h
    | d::r',h =>
     simp only at h;by_cases hd:d=34∨d=92
     ·rw[if_pos hd]at h;match hq:rdQ r' with
      | none=>rw[hq]at h;simp at h
      | some (t',n') =>
       rw[hq]at h;simp only[Option.some.injEq,Prod.mk.injEq]at h;obtain ⟨rfl,rfl⟩:=h;obtain ⟨a1,a2,a3,a4,a5⟩:=ih r' t' n' (by simp only[yB]at hl;omega) hq;refine ⟨?_,by simp only[yB];omega,?_,?_,by simp only[yB];omega⟩
       ·rw[zcv,if_pos h92];simp only;rw[a1]
       ·rw[List.take_succ_cons,List.take_succ_cons,a3,h92];simp[Va.esc,hd]
       ·intro x hx;rcases List.mem_cons.1 hx with rfl|hx
        ·rcases hd with rfl|rfl<;>decide
        ·exact a4 x hx
     ·rw[if_neg hd]at h;cases h
   ·rw[if_neg h92]at h;match hq:rdQ r with
    | none=>rw[hq]at h;simp at h
    | some (t',n') =>
     rw[hq]at h;simp only[Option.some.injEq,Prod.mk.injEq]at h;obtain ⟨rfl,rfl⟩:=h;obtain ⟨a1,a2,a3,a4,a5⟩:=ih r t' n' (by simp only[yB]at hl;omega) hq;refine ⟨?_,by simp only[yB];omega,?_,?_,by simp only[yB];omega⟩
     ·rw[zcv,if_neg h92,if_neg h34,a1]
     ·rw[List.take_succ_cons,a3];simp[Va.esc,h34,h92]
     ·intro x hx;rcases List.mem_cons.1 hx with rfl|hx
      ·omega
      ·exact a4 x hx
theorem zjA (t r:List UInt8) (h:∀ c∈t,32≤c.toNat∧c.toNat≤126):rdQ (Va.esc t++34::r)=some (t,(Va.esc t).length+1):=by
 induction t with
 | nil=>show rdQ (34::r)=_;rw[zd5,if_pos rfl];rfl
 | cons c t ih =>
  have hc:=h c (by simp);have ih':=ih (fun x hx=>h x (by simp[hx]));by_cases hq:c=34∨c=92
  ·have e:Va.esc (c::t)=92::c::Va.esc t:=by simp[Va.esc,hq]
   rw[e,List.cons_append,List.cons_append,zd5,if_neg (by decide),if_neg (by decide),if_pos rfl];simp only;rw[if_pos hq,ih'];simp
  ·have e:Va.esc (c::t)=c::Va.esc t:=by simp[Va.esc,hq]
   rw[e,List.cons_append,zd5,if_neg (fun x=>hq (.inl x)),if_neg (by omega),if_neg (fun x=>hq (.inr x)),ih'];simp
theorem zhA:∀ (k:Nat) (l:List UInt8) (n:Nat),l.length≤k→scanQ l=some n→n≤l.length∧1≤n∧l[n-1]?=some 34:=by
 intro k;induction k with
 | zero =>
  intro l n hl h;obtain rfl:=List.eq_nil_of_length_eq_zero (Nat.le_zero.1 hl);rw[zeG]at h;cases h
 | succ k ih =>
  intro l n hl h;match l,h with
  | [],h=>rw[zeG]at h;cases h
  | c::r,h =>
   rw[zcv]at h;by_cases h92:c=92
   ·rw[if_pos h92]at h;match r,h with
    | [],h=>simp at h
    | d::r',h =>
     simp only at h;match hq:scanQ r' with
     | none=>rw[hq]at h;simp at h
     | some n' =>
      rw[hq]at h;simp only[Option.some.injEq]at h;subst h;obtain ⟨a1,a2,a3⟩:=ih r' n' (by simp only[yB]at hl;omega) hq;refine ⟨by simp only[yB];omega,by omega,?_⟩;rw[show n'+2-1=n'-1+1+1 by omega,List.getElem?_cons_succ,List.getElem?_cons_succ];exact a3
   rw[if_neg h92]at h;by_cases h34:c=34
   ·rw[if_pos h34]at h;simp only[Option.some.injEq]at h;subst h;subst h34;exact ⟨by simp,by omega,rfl⟩
   rw[if_neg h34]at h;match hq:scanQ r with
   | none=>rw[hq]at h;simp at h
   | some n' =>
    rw[hq]at h;simp only[Option.some.injEq]at h;subst h;obtain ⟨a1,a2,a3⟩:=ih r n' (by simp only[yB]at hl;omega) hq;refine ⟨by simp only[yB];omega,by omega,?_⟩;rw[show n'+1-1=n'-1+1 by omega,List.getElem?_cons_succ];exact a3
def qTok (r:List UInt8):Option (List UInt8×Nat):=match rdQ r with
 | some (t,n)=>if t.length≤64 then some (t,n+1) else none
 | none=>none
def decV (acc:Nat) (l:List UInt8):Nat:=l.foldl (fun a c=>a*10+(c.toNat-48)) acc
theorem zk0 (acc:Nat):decV acc []=acc:=rfl
theorem zjc (acc:Nat) (c:UInt8) (r:List UInt8):decV acc (c::r)=decV (acc*10+(c.toNat-48)) r:=by unfold decV;rw[List.foldl_cons]
theorem ztk (a b:Nat):a≤a*10+b:=by omega
theorem zow:∀ (l:List UInt8) (acc:Nat),acc≤decV acc l
 | [],acc=>yG acc
 | c::r,acc=>yH (ztk acc (c.toNat-48)) (zow r (acc*10+(c.toNat-48)))
theorem zmX (l:List UInt8) (h:l.all digB=true):∀ acc,acc<18446744073709551616→Lib.parseUint10 acc l=if decV acc l<18446744073709551616 then .ok (decV acc l) else .range:=by
 induction l with
 | nil=>intro acc ha;rw[zk0,if_pos ha];rfl
 | cons c r ih =>
  intro acc ha;simp only[List.all_cons,Bool.and_eq_true]at h;have hc:=h.1;unfold digB at hc;simp only[yL]at hc;have hle:=zow r (acc*10+(c.toNat-48));rw[Lib.parseUint10,if_pos hc,zjc];by_cases h1:1844674407370955162≤acc
  ·rw[if_pos h1,if_neg (by omega)]
  rw[if_neg h1];by_cases h2:18446744073709551616≤acc*10+(c.toNat-48)
  ·rw[if_pos h2,if_neg (by omega)]
  rw[if_neg h2,ih h.2 _ (by omega)]
theorem zk7 (l:List UInt8) (h:l.all digB=true) (hn:l≠[]):Lib.atoiAll l=if decV 0 l≤9223372036854775807 then .ok (decV 0 l:Int) else .range:=by
 match l,hn with
 | c::r,_ =>
  have hc:=h;simp only[List.all_cons,Bool.and_eq_true]at hc;have hc:=hc.1;unfold digB at hc;simp only[yL]at hc;rw[Lib.atoiAll_plain c r (by omega) (by omega)];unfold Lib.parseMag;rw[if_neg (by simp),zmX _ h 0 (by omega)];by_cases h1:decV 0 (c::r)<18446744073709551616
  ·rw[if_pos h1];simp only[Lib.signless];by_cases h2:decV 0 (c::r)≤9223372036854775807
   ·rw[if_pos h2,if_neg (by omega)]
   ·rw[if_neg h2,if_pos (by omega)]
  ·rw[if_neg h1,if_neg (by omega)];rfl
def zcX (a b:UInt8):Bool:=decide ((a=33∧b=61)∨(a=60∧b=61)∨(a=62∧b=61)∨(a=46∧b=46))
def zco:List UInt8:=[40,41,44,59,58,124,43,45,42,47,37,61,60,62]
def signN:List UInt8→Nat
 | []=>0
 | [a]=>if a∈zco then 1 else 0
 | a::b::_=>if zcX a b=true then 2 else if a∈zco then 1 else 0
inductive TokR where
 | ok (k:Int) (t:List UInt8) (n:Int) (m:Nat)
 | err (e:Int)
def tok1 (l:List UInt8):TokR :=
 match l with
 | []=>.err 50
 | c::r =>
  if letB c=true then (if runN wordB l>16 then .err 50 else .ok 1 (l.take (runN wordB l)) 0 (runN wordB l))
  else if digB c=true then (if c=48∧runN digB l>1 then .err 50 else if decV 0 (l.take (runN digB l))≤9223372036854775807 then .ok 2 [] (decV 0 (l.take (runN digB l))) (runN digB l) else .err 10)
  else if c=34 then (match qTok r with|some (t,n)=>.ok 3 t 0 n|none=>.err 50)
  else if signN l=0 then .err 50 else .ok 4 (l.take (signN l)) 0 (signN l)
structure Tok where
 k:Int
 t:List UInt8
 n:Int
 p:Nat
def lexL (l:List UInt8) (p:Nat):List Tok×Nat×Int :=
 match l with
 | []=>([],p,0)
 | c::r =>
  if wsB c=true then lexL r (p+1)
  else if c=35 then lexL (r.drop (runN notNl r)) (p+1+runN notNl r)
  else match tok1 (c::r) with
   | .err e=>([],p,e)
   | .ok k t n m=>match lexL (r.drop (m-1)) (p+m) with
    | (ts,q,e)=>if e=0 then (⟨k,t,n,p⟩::ts,q,0) else ([],q,e)
termination_by l.length
decreasing_by all_goals (simp only[yB,List.length_drop];omega)
theorem zc4 (p:Nat):lexL [] p=([],p,0):=by rw[lexL]
theorem zgX {c:UInt8} (h:wsB c=true) (r:List UInt8) (p:Nat):lexL (c::r) p=lexL r (p+1):=by
 rw[lexL,if_pos h]
theorem zgj (r:List UInt8) (p:Nat):lexL (35::r) p=lexL (r.drop (runN notNl r)) (p+1+runN notNl r):=by
 rw[lexL,if_neg (by decide),if_pos rfl]
def tokB (c:UInt8):Bool:=!wsB c && decide (c≠35)
theorem zhQ {c:UInt8} (h:tokB c=true) {r:List UInt8} {e:Int} (ht:tok1 (c::r)=.err e) (p:Nat):lexL (c::r) p=([],p,e):=by
 unfold tokB at h;simp only[Bool.and_eq_true,Bool.not_eq_true',yL]at h;rw[lexL,if_neg (by rw[h.1];decide),if_neg h.2,ht]
def pre (a:List Tok) (x:List Tok×Nat×Int):List Tok×Nat×Int:=if x.2.2=0 then (a++x.1,x.2.1,0) else ([],x.2.1,x.2.2)
theorem zgk {c:UInt8} (h:tokB c=true) {r:List UInt8} {k:Int} {t:List UInt8} {n:Int} {m:Nat} (ht:tok1 (c::r)=.ok k t n m) (hm:1≤m) (p:Nat) :
 lexL (c::r) p=pre [⟨k,t,n,p⟩] (lexL ((c::r).drop m) (p+m)):=by
 unfold tokB at h;simp only[Bool.and_eq_true,Bool.not_eq_true',yL]at h;obtain ⟨m',rfl⟩:∃ m',m=m'+1:=⟨m-1,by omega⟩;rw[lexL,if_neg (by rw[h.1];decide),if_neg h.2,ht];simp only[Nat.add_sub_cancel,List.drop_succ_cons];rfl
def gapN (l:List UInt8):Nat :=
 match l with
 | []=>0
 | c::r=>if wsB c=true then gapN r+1 else if c=35 then gapN (r.drop (runN notNl r))+(1+runN notNl r) else 0
termination_by l.length
decreasing_by all_goals (simp only[yB,List.length_drop];omega)
theorem zjZ:gapN []=0:=by rw[gapN]
theorem zqR {c:UInt8} (h:wsB c=true) (r:List UInt8):gapN (c::r)=gapN r+1:=by rw[gapN,if_pos h]
theorem zn8 (r:List UInt8):gapN (35::r)=gapN (r.drop (runN notNl r))+(1+runN notNl r):=by rw[gapN,if_neg (by decide),if_pos rfl]
theorem zn7 {c:UInt8} (h:tokB c=true) (r:List UInt8):gapN (c::r)=0:=by
 unfold tokB at h;simp only[Bool.and_eq_true,Bool.not_eq_true',yL]at h;rw[gapN,if_neg (by rw[h.1];decide),if_neg h.2]
theorem zdz (c:UInt8):wsB c=true∨c=35∨tokB c=true:=by
 by_cases h:wsB c=true
 ·exact .inl h
 ·by_cases h2:c=35
  ·exact .inr (.inl h2)
  ·refine .inr (.inr ?_);unfold tokB;simp only[Bool.and_eq_true,Bool.not_eq_true',yL];exact ⟨by simpa using h,h2⟩
theorem zgu:∀ (k:Nat) (l:List UInt8) (p:Nat),l.length≤k→gapN l≤l.length∧lexL l p=lexL (l.drop (gapN l)) (p+gapN l)∧(∀ c,l[gapN l]?=some c→tokB c=true):=by
 intro k;induction k with
 | zero =>
  intro l p hl;obtain rfl:=List.eq_nil_of_length_eq_zero (Nat.le_zero.1 hl);rw[zjZ];exact ⟨by simp,rfl,by simp⟩
 | succ k ih =>
  intro l p hl;match l,hl with
  | [],_=>rw[zjZ];exact ⟨by simp,rfl,by simp⟩
  | c::r,hl =>
   simp only[yB]at hl;rcases zdz c with h|rfl|h
   ·obtain ⟨a1,a2,a3⟩:=ih r (p+1) (by omega);rw[zqR h,zgX h,a2,List.drop_succ_cons];refine ⟨by simp only[yB];omega,by rw[show p+1+gapN r=p+(gapN r+1) by omega],fun d hd=>?_⟩;rw[List.getElem?_cons_succ]at hd;exact a3 d hd
   ·have hrl:=zcZ notNl r;obtain ⟨a1,a2,a3⟩:=ih (r.drop (runN notNl r)) (p+1+runN notNl r) (by rw[List.length_drop];omega);rw[zn8,zgj,a2];rw[List.length_drop]at a1;have e:∀ q:Nat,(35::r:List UInt8).drop (q+(1+runN notNl r))=(r.drop (runN notNl r)).drop q:=fun q=>by
     rw[show q+(1+runN notNl r)=(runN notNl r+q)+1 by omega,List.drop_succ_cons,List.drop_drop]
    refine ⟨by simp only[yB];omega,by rw[e,show ∀ q,p+1+runN notNl r+q=p+(q+(1+runN notNl r)) from fun q=>by omega],fun d hd=>a3 d ?_⟩;rw[← List.head?_drop]at hd ⊢;rwa [e]at hd
   ·rw[zn7 h];exact ⟨by omega,rfl,fun d hd=>by simp at hd;subst hd;exact h⟩
theorem ztr (l:List UInt8):gapN l≤l.length:=(zgu l.length l 0 (yG _)).1
theorem znC (l:List UInt8) (p:Nat):lexL l p=lexL (l.drop (gapN l)) (p+gapN l):=(zgu l.length l p (yG _)).2.1
theorem zsf {l:List UInt8} {c:UInt8} (h:l[gapN l]?=some c):tokB c=true:=(zgu l.length l 0 (yG _)).2.2 c h
theorem zrK (a b:List Tok) (x:List Tok×Nat×Int):pre a (pre b x)=pre (a++b) x:=by
 unfold pre;by_cases h:x.2.2=0
 ·rw[if_pos h,if_pos rfl,if_pos h];simp
 ·rw[if_neg h,if_neg h,if_neg h]
theorem zrL (x:List Tok×Nat×Int) (h:x.2.2≠0→x.1=[]):pre [] x=x:=by
 unfold pre;obtain ⟨a,b,c⟩:=x;by_cases hc:c=0
 ·subst hc;rfl
 ·simp only at h;rw[if_neg hc,h hc]
theorem zhB {f:UInt8→Bool} {c:UInt8} {r:List UInt8} (h:f c=true):1≤runN f (c::r):=by rw[za8,if_pos h];omega
theorem zhR {c:UInt8} (h:letB c=true):wordB c=true:=by unfold wordB;rw[h];rfl
theorem zbt (c:UInt8) (r:List UInt8):tok1 (c::r)=if letB c=true then (if runN wordB (c::r)>16 then .err 50 else .ok 1 ((c::r).take (runN wordB (c::r))) 0 (runN wordB (c::r)))
 else if digB c=true then (if c=48∧runN digB (c::r)>1 then .err 50 else if decV 0 ((c::r).take (runN digB (c::r)))≤9223372036854775807 then .ok 2 [] (decV 0 ((c::r).take (runN digB (c::r)))) (runN digB (c::r)) else .err 10)
 else if c=34 then (match qTok r with|some (t,n)=>.ok 3 t 0 n|none=>.err 50)
 else if signN (c::r)=0 then .err 50 else .ok 4 ((c::r).take (signN (c::r))) 0 (signN (c::r)):=rfl
theorem zpu {r t:List UInt8} {n:Nat} (h:qTok r=some (t,n)):1≤n∧n≤r.length+1:=by
 unfold qTok at h
 cases hq:rdQ r with
 | none=>rw[hq]at h;cases h
 | some x =>
  obtain ⟨t',n'⟩:=x;rw[hq]at h;simp only at h;split at h
  ·simp only[Option.some.injEq,Prod.mk.injEq]at h;obtain ⟨rfl,rfl⟩:=h;have:=(zeJ r.length r t' n' (yG _) hq).2.1;omega
  ·cases h
theorem zin (l:List UInt8):signN l≤l.length:=by
 match l with
 | []=>exact yG _
 | [a]=>show (if a∈zco then 1 else 0)≤1;split<;>omega
 | a::b::r =>
  show (if zcX a b=true then 2 else if a∈zco then 1 else 0)≤_
  simp only[yB];split
  ·omega
  ·split<;>omega
theorem zct {c:UInt8} {r:List UInt8}:(∀ k t n m,tok1 (c::r)=.ok k t n m→1≤m∧m≤r.length+1)∧(∀ e,tok1 (c::r)=.err e→e=50∨e=10):=by
 have hw:=zcZ wordB (c::r);have hd:=zcZ digB (c::r);have hs:=zin (c::r);simp only[yB]at hw hd hs;rw[zbt];by_cases h1:letB c=true
 ·have hp:=zhB (f:=wordB) (r:=r) (zhR h1);rw[if_pos h1];by_cases h2:runN wordB (c::r)>16
  ·rw[if_pos h2];exact ⟨(fun k t n m h=>by cases h),fun e h=>by injection h with h;exact .inl h.symm⟩
  ·rw[if_neg h2];exact ⟨(fun k t n m h=>by injection h with _ _ _ h;omega),(fun e h=>by cases h)⟩
 rw[if_neg h1];by_cases h2:digB c=true
 ·have hp:=zhB (f:=digB) (r:=r) h2;rw[if_pos h2];by_cases h3:c=48∧runN digB (c::r)>1
  ·rw[if_pos h3];exact ⟨(fun k t n m h=>by cases h),fun e h=>by injection h with h;exact .inl h.symm⟩
  rw[if_neg h3];by_cases h4:decV 0 ((c::r).take (runN digB (c::r)))≤9223372036854775807
  ·rw[if_pos h4];exact ⟨(fun k t n m h=>by injection h with _ _ _ h;omega),(fun e h=>by cases h)⟩
  ·rw[if_neg h4];exact ⟨(fun k t n m h=>by cases h),fun e h=>by injection h with h;exact .inr h.symm⟩
 rw[if_neg h2];by_cases h3:c=34
 ·rw[if_pos h3]
  cases hq:qTok r with
  | none=>exact ⟨(fun k t n m h=>by cases h),fun e h=>by injection h with h;exact .inl h.symm⟩
  | some x =>
   obtain ⟨t',n'⟩:=x;have:=zpu hq;exact ⟨(fun k t n m h=>by injection h with _ _ _ h;omega),(fun e h=>by cases h)⟩
 rw[if_neg h3];by_cases h4:signN (c::r)=0
 ·rw[if_pos h4];exact ⟨(fun k t n m h=>by cases h),fun e h=>by injection h with h;exact .inl h.symm⟩
 ·rw[if_neg h4];exact ⟨(fun k t n m h=>by injection h with _ _ _ h;omega),(fun e h=>by cases h)⟩
def lexS (l:List UInt8):List Tok×Nat×Int:=if 16384<l.length then ([],0,31) else lexL l 0
theorem zjS:∀ (k:Nat) (l:List UInt8) (p:Nat),l.length≤k→(lexL l p).2.2≠0→(lexL l p).1=[]:=by
 intro k;induction k with
 | zero =>
  intro l p hl h;obtain rfl:=List.eq_nil_of_length_eq_zero (Nat.le_zero.1 hl);rw[zc4]
 | succ k ih =>
  intro l p hl h;match l,hl with
  | [],_=>rw[zc4]
  | c::r,hl =>
   simp only[yB]at hl;rcases zdz c with hc|rfl|hc
   ·rw[zgX hc]at h ⊢;exact ih r (p+1) (by omega) h
   ·rw[zgj]at h ⊢;exact ih _ _ (by rw[List.length_drop];omega) h
   ·cases ht:tok1 (c::r) with
    | err e=>rw[zhQ hc ht]
    | ok kk t n m =>
     have hm:=(zct.1 kk t n m ht);rw[zgk hc ht hm.1]at h ⊢;unfold pre at h ⊢;split at h
     ·exact absurd rfl h
     ·rename_i hx;rw[if_neg hx]
theorem zrM (l:List UInt8) (p:Nat):pre [] (lexL l p)=lexL l p:=zrL _ (zjS l.length l p (yG _))
theorem zlj (L:List UInt8):lexL L 0=pre [] (lexL (L.drop (gapN L)) (0+gapN L)):=by rw[zrM,← znC]
theorem zro {L:List UInt8} {acc:List Tok} {k:Nat} {c:UInt8} {kk:Int} {t:List UInt8} {n:Int} {m:Nat} (hc:L[k]?=some c) (hb:tokB c=true) (ht:tok1 (L.drop k)=.ok kk t n m)
 (h:lexL L 0=pre acc (lexL (L.drop k) k)):lexL L 0=pre (acc++[⟨kk,t,n,k⟩]) (lexL (L.drop (k+m+gapN (L.drop (k+m)))) (k+m+gapN (L.drop (k+m)))):=by
 obtain ⟨hk,he⟩:=yE.1 hc;have hd:L.drop k=c::L.drop (k+1):=by rw[List.drop_eq_getElem_cons hk,he]
 have ht':=ht;rw[hd]at ht';have hm:=zct.1 kk t n m ht';rw[h,hd,zgk hb ht' hm.1,zrK,← hd,List.drop_drop];rw[znC (L.drop (k+m)),List.drop_drop]
theorem zpb {L:List UInt8} {acc:List Tok} {k:Nat} {c:UInt8} {e:Int} (hc:L[k]?=some c) (hb:tokB c=true) (ht:tok1 (L.drop k)=.err e) (h:lexL L 0=pre acc (lexL (L.drop k) k)):lexL L 0=([],k,e)∧e≠0:=by
 obtain ⟨hk,he⟩:=yE.1 hc;have hd:L.drop k=c::L.drop (k+1):=by rw[List.drop_eq_getElem_cons hk,he]
 have ht':=ht;rw[hd]at ht';have hm:=zct.2 e ht';have h0:e≠0:=by rcases hm with rfl|rfl<;>decide
 refine ⟨?_,h0⟩;rw[h,hd,zhQ hb ht'];unfold pre;rw[if_neg h0]
theorem zpc {L:List UInt8} {acc:List Tok} {k:Nat} (hk:L.length≤k) (h:lexL L 0=pre acc (lexL (L.drop k) k)):lexL L 0=(acc,k,0):=by
 rw[h,List.drop_eq_nil_of_le hk,zc4];unfold pre;rw[if_pos rfl,List.append_nil]
theorem zrd {L:List UInt8} {k:Nat} {c:UInt8} {kk:Int} {t:List UInt8} {n:Int} {m:Nat} (hc:L[k]?=some c) (ht:tok1 (L.drop k)=.ok kk t n m):1≤m∧k+m≤L.length:=by
 obtain ⟨hk,he⟩:=yE.1 hc;have hd:L.drop k=c::L.drop (k+1):=by rw[List.drop_eq_getElem_cons hk,he]
 rw[hd]at ht;have:=zct.1 kk t n m ht;rw[List.length_drop]at this;omega
theorem zqS (L:List UInt8) (k:Nat) (h:k≤L.length):k+gapN (L.drop k)≤L.length:=by
 have:=ztr (L.drop k);rw[List.length_drop]at this;omega
theorem zkW {L:List UInt8} {k:Nat} {c:UInt8} (h:L[k+gapN (L.drop k)]?=some c):tokB c=true:=by
 refine zsf (l:=L.drop k) ?_;rw[List.getElem?_drop];exact h
def zcO (t:Tok):List Value:=[.int .i64 t.k,.string ⟨t.t.toArray⟩,.int .i64 t.n,.int .i64 (t.p:Int)]
def zdO (ts:List Tok):List Value:=ts.flatMap zcO
theorem zka (ts:List Tok) (t:Tok):zdO (ts++[t])=zdO ts++zcO t:=by simp[zdO]
theorem zkb (t:Tok) (ts:List Tok):zdO (t::ts)=zcO t++zdO ts:=rfl
theorem zoB (ts:List Tok) (i:Nat) (t:Tok) (h:ts[i]?=some t) (j:Nat) (hj:j<4):(zdO ts)[i*4+j]?=(zcO t)[j]?:=by
 induction ts generalizing i with
 | nil=>simp at h
 | cons u ts ih =>
  rw[zkb]
  cases i with
  | zero =>
   simp only[List.getElem?_cons_zero,Option.some.injEq]at h;subst h;rw[Nat.zero_mul,Nat.zero_add,List.getElem?_append_left (by show j<4;exact hj)]
  | succ i =>
   rw[List.getElem?_cons_succ]at h;rw[List.getElem?_append_right (by show 4≤_;omega)];show (zdO ts)[(i+1)*4+j-4]?=_
   rw[show (i+1)*4+j-4=i*4+j by omega];exact ih i h
theorem zsa:(Tryz.prog.info? 169).map (fun i=>(i.zero,i.size,i.bytes))=some (some (.agg #[.int .i64 0,.string ⟨#[]⟩,.int .i64 0,.int .i64 0]),4,40):=by kernel_rfl
theorem zst {P:Program} {ops:Array Oper} {rest:List Oper} {o:Oper} {a:Act} {Q:Exit→Act→World→Prop} {w:World} (hgd:o.guard=none) (s x:Operand) (t e:TypeId)
 (ho:o.op=.call { callee:=.builtin .append,args:=#[s,x],argTypes:=#[t,t] }) {i:TypeInfo} (ht:P.underlying t=some (.slice e)) (hi:P.info? e=some i) (hz:i.zero=some (.agg #[.int .i64 0,.string ⟨#[]⟩,.int .i64 0,.int .i64 0])) (hsize:i.size=4) (hby:i.bytes=40)
 (base:Nat) (v:Value) (ts:List Tok) (y:Tok) (c0 c1 c2 c3:Value) (hc:[c0,c1,c2,c3]=zcO y) (hs:a.eval s=v) (hown:w.ownsRow base e 4 v ts.length (zdO ts)) (hx:a.eval x=.slice (some ⟨w.heap.size,0,none⟩) 1 1)
 (hlen:ts.length+1≤1000000) (hbase:base≤w.heap.size)
 (h:∀ v' w',w'.ownsRow base e 4 v' (ts++[y]).length (zdO (ts++[y]))→w.grownBy w' v.ownBlock→wpList P ops Q rest (a.put o.dst v') w') :
 wpList P ops Q (o::rest) a (w.alloc (.cells #[c0,c1,c2,c3] e)):=by
 refine wpList_append_own (w.alloc (.cells #[c0,c1,c2,c3] e)) hgd s x t ho base e i _ 4 40 ht hi hz hsize hby rfl (by decide) v ts.length (zdO ts) hs (hown.alloc _) ⟨w.heap.size,0,none⟩ 1 1 [c0,c1,c2,c3] hx rfl ?_ ?_ ?_ ?_ ?_ ?_
 ·intro j u hj;have e1:(⟨w.heap.size,0,none⟩:Addr).add j=⟨w.heap.size,j,none⟩:=by simp[Addr.add];exact fun e=>e.symm
  rw[e1,World.cell?_alloc_at _ _ _ _ rfl];simpa using hj
 ·intro u hu;rw[hc]at hu;simp only[zcO,List.mem_cons,List.not_mem_nil,or_false]at hu;rcases hu with rfl|rfl|rfl|rfl<;>rfl
 ·unfold maxLen;omega
 ·omega
 ·simp only[World.size_alloc];omega
 ·intro v' w' h1 h2 _;refine h v' w' ?_ ⟨h2.os,h2.tape,h2.output,?_,fun k hk hne=>?_⟩
  ·rw[zka,yA,← hc];exact h1
  ·have:=h2.size;simp only[World.size_alloc]at this;omega
  ·rw[h2.block k (by simp only[World.size_alloc];omega) hne,Below.heap_alloc w _ k hk]
def LexTo (x:List Tok×Nat×Int) (T:TypeId) (w:World) (e:Ending) (w':World):Prop :=
 ∃ v,e=.returned (.tuple #[v,.int .i64 (x.2.1:Int),.int .i64 x.2.2])∧w'.ownsRow w.heap.size T 4 v x.1.length (zdO x.1)∧Below w.heap.size w w'
def sepB (c:UInt8):Bool:=wsB c || decide (c=35)
theorem zir {c:UInt8} (h:sepB c=true):c=32∨c=9∨c=10∨c=35:=by
 unfold sepB wsB at h;simp only[Bool.or_eq_true,yL]at h;rcases h with (h|h|h)|h
 ·exact .inl h
 ·exact .inr (.inl h)
 ·exact .inr (.inr (.inl h))
 ·exact .inr (.inr (.inr h))
theorem zph {c:UInt8} (h:sepB c=true):wordB c=false∧digB c=false:=by
 rcases zir h with rfl|rfl|rfl|rfl<;>decide
theorem zku {f:UInt8→Bool} {c:UInt8} (h:f c=false) (l y:List UInt8):runN f (l++c::y)=runN f l:=by
 induction l with
 | nil=>rw[List.nil_append,za8,if_neg (by rw[h];decide)];rfl
 | cons d l ih=>rw[List.cons_append,za8,za8,ih]
theorem zmx {c:UInt8} (h:sepB c=true) (a:UInt8) (l y:List UInt8):signN (a::l++c::y)=signN (a::l):=by
 cases l with
 | nil =>
  show (if zcX a c=true then 2 else if a∈zco then 1 else 0)=(if a∈zco then 1 else 0)
  have:zcX a c=false:=by
   unfold zcX;rw[yK];rcases zir h with rfl|rfl|rfl|rfl<;>rintro (⟨_,e⟩|⟨_,e⟩|⟨_,e⟩|⟨_,e⟩)<;>revert e<;>decide
  rw[this,if_neg (by decide)]
 | cons b l=>rfl
