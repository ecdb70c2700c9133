/- The tree of a plan: folds, its tokens, its text, how deep; what is well formed. No program in sight. The plain law of the reader: a plan's own tokens are read as that plan, or lie too deep. No program in sight. The plain law of a plan's text: it is cut into the plan's tokens. No program in sight. The plain law of the reader of queries: what it reads is well formed, no deeper than it may be, its text not much longer than what it was read from. No program in sight. The plain law of queries: what is read has a text that tells it again; put in brackets it is read as the same, or lies too deep. -/
import Derived.Test.YtonkjhmkppeagaaGreatDoorTPsB
import Derived.Test.YtonkjhmkppeagaaGreatDoorTTree
import Derived.Test.YtonkjhmkppeagaaGreatDoorTTxB
set_option linter.unusedVariables false
namespace Go.Proofs.YtonkjhmkppeagaaGreatDoor.Pz
open Go Go.RowKit Lx
theorem Pl.ind {P:Pl→Prop} (h:∀ p,(∀ a ∈ p.xs,P a)→P p):∀ p,P p
 | .mk k nm xs c n e o g r t=>h (.mk k nm xs c n e o g r t) fun a ha=>Pl.ind h a
termination_by x=>SizeOf.sizeOf x
decreasing_by
 have:=List.sizeOf_lt_of_mem (show a ∈ xs from ha)
 simp only [Pl.mk.sizeOf_spec]
 omega
def foldQ {α:Type} (F:Pl→List (Pl × α)→α):Pl→α
 | .mk k nm xs c n e o g r t=>F (.mk k nm xs c n e o g r t) (xs.attach.map fun a=>(a.1,foldQ F a.1))
termination_by x=>SizeOf.sizeOf x
decreasing_by
 have:=List.sizeOf_lt_of_mem a.2
 simp only [Pl.mk.sizeOf_spec]
 omega
theorem foldQ_eq {α:Type} (F:Pl→List (Pl × α)→α) (p:Pl):foldQ F p=F p (p.xs.map fun a=>(a,foldQ F a)):=by
 cases p with
 | mk k nm xs c n e o g r t =>
  rw [foldQ]
  congr 1
  exact List.attach_map_val (f:=fun a:Pl=>(a,foldQ F a))
def wordsT (l:List Str):Str:=joinS [32] (l.filter fun s=>decide (s≠[]))
def partT (b:Pl × Str):Str:=if b.1.k=1 then b.1.nm else 40::(b.2++[41])
def secT (r:List (Pl × Str)):Str:=match r with|[]=>[]|b::_=>partT b
def pairT (o:Str × Str):Str:=o.1++([32,61,32]++o.2)
def aggT (a:Str × Str × Str):Str:=a.1++(40::(a.2.1++([41,32,97,115,32]++a.2.2)))
def keepT (x:Ex) (n:Str):Str:=textE x++([32,97,115,32]++n)
def keptL:List Ex→List Str→List Str
 | [],_=>[]
 | x::r,ns=>keepT x (ns.headD [])::keptL r ns.tail
def ordT (o:Str × Bool):Str:=if o.2=true then o.1++[32,100,111,119,110] else o.1
def stepT (p:Pl) (second:Str):Str :=
 if p.k=2 then wordsT [sWhere,textE p.cond]
 else if p.k=3 then wordsT [sKeep,joinS [44,32] (keptL p.exprs p.names)]
 else if p.k=4 then wordsT [sJoin,second,sOn,joinS [44,32] (p.on.map pairT)]
 else if p.k=5 then wordsT [sLeft,second,sOn,joinS [44,32] (p.on.map pairT)]
 else if p.k=6 then wordsT [sGroup,joinS [44,32] p.names,[58],joinS [44,32] (p.aggs.map aggT)]
 else if p.k=7 then wordsT [sUnion,second]
 else if p.k=8 then sDistinct
 else wordsT [sFirst,Lib.itoa p.cnt,if p.ord=[] then [] else sBy,joinS [44,32] (p.ord.map ordT)]
def textQF (p:Pl) (l:List (Pl × Str)):Str :=
 if p.k=1 then p.nm else match l with|[]=>p.nm|a::r=>a.2++([32,124,32]++stepT p (secT r))
def textQ:Pl→Str:=foldQ textQF
def partN (b:Pl × Nat):Nat:=if b.1.k=1 then 0 else b.2+1
def secN (r:List (Pl × Nat)):Nat:=match r with|[]=>0|b::_=>partN b
def deepQF (p:Pl) (l:List (Pl × Nat)):Nat:=if p.k=1 then 0 else match l with|[]=>0|a::r=>max a.2 (secN r)
def deepQ:Pl→Nat:=foldQ deepQF
def WordOk (n:Str):Prop:=TokOk ⟨1,n,0,0⟩
def ExOk (x:Ex):Prop:=OkE x∧deepE x+1≤32
inductive OkQ:Pl→Prop
 | scan (n:Str) (h:WordOk n):OkQ (scanL n)
 | where_ (a:Pl) (x:Ex) (ha:OkQ a) (hx:ExOk x):OkQ (.mk 2 [] [a] x [] [] [] [] [] 0)
 | keep (a:Pl) (ns:List Str) (xs:List Ex) (ha:OkQ a) (hl:xs.length=ns.length) (h0:xs≠[]) (hx:∀ x ∈ xs,ExOk x) (hn:∀ n ∈ ns,WordOk n):OkQ (.mk 3 [] [a] zEx ns xs [] [] [] 0)
 | join (k:Int) (a b:Pl) (on:List (Str × Str)) (hk:k=4∨k=5) (ha:OkQ a) (hb:OkQ b) (h0:on≠[]) (ho:∀ o ∈ on,WordOk o.1∧WordOk o.2):OkQ (.mk k [] [a,b] zEx [] [] on [] [] 0)
 | group (a:Pl) (ns:List Str) (gs:List (Str × Str × Str)) (ha:OkQ a) (hn:∀ n ∈ ns,WordOk n) (hg:∀ g ∈ gs,g.1 ∈ aggWords∧(g.2.1=[]∨WordOk g.2.1)∧WordOk g.2.2):OkQ (.mk 6 [] [a] zEx ns [] [] gs [] 0)
 | union (a b:Pl) (ha:OkQ a) (hb:OkQ b):OkQ (.mk 7 [] [a,b] zEx [] [] [] [] [] 0)
 | dist (a:Pl) (ha:OkQ a):OkQ (.mk 8 [] [a] zEx [] [] [] [] [] 0)
 | first (a:Pl) (n:Int) (os:List (Str × Bool)) (ha:OkQ a) (h0:0≤n) (h1:n≤9223372036854775807) (ho:∀ o ∈ os,WordOk o.1):OkQ (.mk 9 [] [a] zEx [] [] [] [] os n)
section
variable (k:Int) (a b:Pl) (c:Ex) (n:List Str) (e:List Ex) (o:List (Str × Str)) (g:List (Str × Str × Str)) (r:List (Str × Bool)) (t:Int)
theorem textQ_scan (m:Str):textQ (scanL m)=m:=by unfold textQ;rw [foldQ_eq];rfl
theorem deepQ_scan (m:Str):deepQ (scanL m)=0:=by unfold deepQ;rw [foldQ_eq];rfl
theorem textQ_one (hk:k≠1):textQ (.mk k [] [a] c n e o g r t)=textQ a++([32,124,32]++stepT (.mk k [] [a] c n e o g r t) []):=by
 unfold textQ;rw [foldQ_eq];unfold textQF;rw [if_neg (show ¬ (Pl.mk k [] [a] c n e o g r t).k=1 from hk)];rfl
theorem deepQ_one (hk:k≠1):deepQ (.mk k [] [a] c n e o g r t)=deepQ a:=by
 unfold deepQ;rw [foldQ_eq];unfold deepQF;rw [if_neg (show ¬ (Pl.mk k [] [a] c n e o g r t).k=1 from hk)];exact Nat.max_eq_left (Nat.zero_le _)
theorem textQ_two (hk:k≠1):textQ (.mk k [] [a,b] c n e o g r t)=textQ a++([32,124,32]++stepT (.mk k [] [a,b] c n e o g r t) (partT (b,textQ b))):=by
 unfold textQ;rw [foldQ_eq];unfold textQF;rw [if_neg (show ¬ (Pl.mk k [] [a,b] c n e o g r t).k=1 from hk)];rfl
theorem deepQ_two (hk:k≠1):deepQ (.mk k [] [a,b] c n e o g r t)=max (deepQ a) (partN (b,deepQ b)):=by
 unfold deepQ;rw [foldQ_eq];unfold deepQF;rw [if_neg (show ¬ (Pl.mk k [] [a,b] c n e o g r t).k=1 from hk)];rfl
end
theorem OkQ.scan_of {b:Pl} (h:OkQ b) (hk:b.k=1):∃ n,WordOk n∧b=scanL n:=by
 cases h with
 | scan n h=>exact ⟨n,h,rfl⟩
 | join k a b on hk' ha hb h0 ho =>
  exfalso
  have hk2:k=1:=hk
  omega
 | where_ a x ha hx=>exact absurd (show (2:Int)=1 from hk) (by decide)
 | keep a ns xs ha hl h0 hx hn=>exact absurd (show (3:Int)=1 from hk) (by decide)
 | group a ns gs ha hn hg=>exact absurd (show (6:Int)=1 from hk) (by decide)
 | union a b ha hb=>exact absurd (show (7:Int)=1 from hk) (by decide)
 | dist a ha=>exact absurd (show (8:Int)=1 from hk) (by decide)
 | first a n os ha h0 h1 ho=>exact absurd (show (9:Int)=1 from hk) (by decide)
end Go.Proofs.YtonkjhmkppeagaaGreatDoor.Pz
namespace Go.Proofs.YtonkjhmkppeagaaGreatDoor.Pz
open Go Go.RowKit Lx
def Sg (l:List Str) (ts:List Tk):Prop:=∀ h r,ts=h::r→h.1=4∧h.2.1 ∈ l
theorem Sg.nil (l:List Str):Sg l []:=fun h r e=>by cases e
theorem Sg.cons {l:List Str} {x:Str} (hx:x ∈ l) (r:List Tk):Sg l ((4,x,0)::r):=fun h r' e=>by cases e;exact ⟨rfl,hx⟩
theorem Sg.mono {l l':List Str} {ts:List Tk} (h:Sg l ts) (hl:∀ x ∈ l,x ∈ l'):Sg l' ts:=fun t r e=>⟨(h t r e).1,hl _ (h t r e).2⟩
theorem foldl_snoc {α β:Type} (g:α→β):∀ (l:List α) (acc:List β),l.foldl (fun a x=>a++[g x]) acc=acc++l.map g
 | [],acc=>by simp
 | x::r,acc=>by rw [List.foldl_cons,foldl_snoc g r,List.map_cons,List.append_assoc];rfl
theorem snoc_fold {β:Type} (l:List β):l.foldl (fun a x=>a++[x]) []=l:=by
 have:=foldl_snoc (id:β→β) l []
 simpa using this
theorem keep_fold:∀ (l:List (Ex × Str)) (a:List Ex × List Str),l.foldl (fun a p=>(a.1++[p.1],a.2++[p.2])) a=(a.1++l.map (·.1),a.2++l.map (·.2))
 | [],a=>by simp
 | p::l,a=>by rw [List.foldl_cons,keep_fold l];simp
end Go.Proofs.YtonkjhmkppeagaaGreatDoor.Pz
namespace Go.Proofs.YtonkjhmkppeagaaGreatDoor.Pz
open Go Go.RowKit Lx
def WrT (t:Str) (k:List Tk):Prop:=∀ r ts,RdT r ts→Cl r→RdT (t++r) (k++ts)
theorem WrT.app {t u:Str} {k j:List Tk} (h:WrT t k) (g:WrT u j) (hc:∀ r,Cl (u++r)):WrT (t++u) (k++j):=fun r ts hr hcl=>by
 rw [List.append_assoc,List.append_assoc]
 exact h _ _ (g r ts hr hcl) (hc r)
theorem WrT.empty:WrT [] []:=fun r ts hr _=>hr
def WrA (t:Str) (k:List Tk):Prop:=∀ r ts,RdT r ts→RdT (t++r) (k++ts)
theorem WrA.app {t u:Str} {k j:List Tk} (h:WrA t k) (g:WrT u j):WrT (t++u) (k++j):=fun r ts hr hcl=>by
 rw [List.append_assoc,List.append_assoc]
 exact h _ _ (g r ts hr hcl)
theorem WrA.both {t u:Str} {k j:List Tk} (h:WrA t k) (g:WrA u j):WrA (t++u) (k++j):=fun r ts hr=>by
 rw [List.append_assoc,List.append_assoc]
 exact h _ _ (g r ts hr)
theorem keptL_map:∀ (xs:List Ex) (ns:List Str),xs.length=ns.length→keptL xs ns=(xs.zip ns).map fun p=>keepT p.1 p.2
 | [],[],_=>rfl
 | x::xs,n::ns,h=>by
  show keepT x n::keptL xs ns=keepT x n::(xs.zip ns).map _
  rw [keptL_map xs ns (by simpa using h)]
end Go.Proofs.YtonkjhmkppeagaaGreatDoor.Pz
namespace Go.Proofs.YtonkjhmkppeagaaGreatDoor.Pz
open Go Go.RowKit Lx
theorem wt_name {s:Ps} (a:AllOk s) (h:(nameP s).2.e=0):WordOk (nameP s).1∧(nameP s).1.length+1+Wt (nameP s).2=Wt s:=by
 unfold nameP tokenP at h ⊢
 by_cases hk:(peekP s).k=1
 ·rw [if_pos hk] at h ⊢
  have ok:=peek_ok a (by rw [hk];decide)
  refine ⟨tok_word ok hk,?_⟩
  have:=wt_adv (s:=s) (by rw [hk];decide)
  rw [sh_word hk] at this
  simp only;omega
 ·rw [if_neg hk] at h
  exact absurd h (fail_ok (by decide))
theorem wt_num {s:Ps} (a:AllOk s) (h:(tokenP 2 s).2.e=0):0≤(tokenP 2 s).1.n∧(tokenP 2 s).1.n≤9223372036854775807∧(Lib.itoa (tokenP 2 s).1.n).length+1+Wt (tokenP 2 s).2=Wt s:=by
 unfold tokenP at h ⊢
 by_cases hk:(peekP s).k=2
 ·rw [if_pos hk] at h ⊢
  have ok:=peek_ok a (by rw [hk];decide)
  obtain ⟨_,h1,h2⟩:=tok_num ok hk
  refine ⟨h1,h2,?_⟩
  have:=wt_adv (s:=s) (by rw [hk];decide)
  rw [sh_num hk] at this
  simp only;omega
 ·rw [if_neg hk] at h
  exact absurd h (fail_ok (by decide))
theorem wt_text {s:Ps} (a:AllOk s) (h:(tokenP 3 s).2.e=0):TokOk ⟨3,(tokenP 3 s).1.t,0,0⟩∧(Va.quotedL (tokenP 3 s).1.t).length+1+Wt (tokenP 3 s).2=Wt s:=by
 unfold tokenP at h ⊢
 by_cases hk:(peekP s).k=3
 ·rw [if_pos hk] at h ⊢
  have ok:=peek_ok a (by rw [hk];decide)
  refine ⟨tok_text ok hk,?_⟩
  have:=wt_adv (s:=s) (by rw [hk];decide)
  rw [sh_text hk] at this
  simp only;omega
 ·rw [if_neg hk] at h
  exact absurd h (fail_ok (by decide))
theorem wt_want {s:Ps} {x:Str} (h:(wantP x s).e=0):x.length+1+Wt (wantP x s)=Wt s:=by
 obtain ⟨h1,h2⟩:=want_ok h
 rw [h2]
 exact (wt_is h1).symm
theorem one_read {ws:List Str} {s:Ps} (h:(oneP ws s).2.e=0):∃ k,k < ws.length∧(oneP ws s).1=1+k∧(ws.getD k []).length+1+Wt (oneP ws s).2=Wt s:=by
 unfold oneP at h ⊢
 rw [oneFrom_is] at h ⊢
 cases hf:firstOp ws s with
 | none=>rw [hf] at h;exact absurd h (fail_ok (by decide))
 | some k =>
  obtain ⟨o,h1,h2⟩:=firstOp_is hf
  refine ⟨k,(firstOp_some hf).1,rfl,?_⟩
  rw [List.getD_eq_getElem?_getD,h1]
  exact (wt_is h2).symm
theorem loop_read {α β:Type} {f:α→Ps→α × Ps} (g:∀ a s,Goes s (f a s).2) (put:α→β→α) (tx:β→Str) (ok:β→Prop)
 (hf:∀ a s,AllOk s→(f a s).2.e=0→∃ x,(f a s).1=put a x∧ok x∧(tx x).length+2+2 * Wt (f a s).2≤2 * Wt s) :
 ∀ (fuel:Nat) (a:α) (s:Ps),AllOk s→(listLoop f fuel a s).2.e=0→∃ l:List β,(listLoop f fuel a s).1=l.foldl put a∧(∀ x ∈ l,ok x)∧(l.map fun x=>(tx x).length+2).sum+2 * Wt (listLoop f fuel a s).2≤2 * Wt s
 | 0,a,s,al,h=>⟨[],rfl,fun x hx=>by simp at hx,by simp [listLoop]⟩
 | fuel+1,a,s,al,h=>by
  by_cases hc:isP s [44]=true
  ·rw [list_more hc] at h ⊢
   have h2:=(goes_listLoop g fuel _ _).back h
   obtain ⟨x,x1,x2,x3⟩:=hf a (advP s) ((goes_adv_is hc).all al) h2
   obtain ⟨l,l1,l2,l3⟩:=loop_read g put tx ok hf fuel _ _ (((goes_adv_is hc).trans (g _ _)).all al) h
   have hw:=wt_is hc
   refine ⟨x::l,by rw [l1,x1];rfl,fun y hy=>by rcases List.mem_cons.1 hy with rfl|hy;exact x2;exact l2 y hy,?_⟩
   rw [List.map_cons,List.sum_cons];omega
  ·rw [list_end (by simpa using hc)] at h ⊢
   exact ⟨[],rfl,fun x hx=>by simp at hx,by simp⟩
theorem joinS_sum2 {β:Type} (tx:β→Str) {l:List β} (h0:l≠[]):(joinS [44,32] (l.map tx)).length+2≤(l.map fun x=>(tx x).length+2).sum:=by
 cases l with
 | nil=>exact absurd rfl h0
 | cons x l =>
  cases l with
  | nil=>show (tx x).length+2≤_;simp
  | cons y l =>
   have:=joinS_sum2 tx (List.cons_ne_nil y l)
   show (tx x++([44,32]++joinS [44,32] ((y::l).map tx))).length+2≤_
   rw [List.map_cons (f:=fun x=>(tx x).length+2),List.sum_cons]
   simp only [List.length_append,List.length_cons,List.length_nil];omega
theorem list_read {α β:Type} {f:α→Ps→α × Ps} (g:∀ a s,Goes s (f a s).2) (put:α→β→α) (tx:β→Str) (ok:β→Prop)
 (hf:∀ a s,AllOk s→(f a s).2.e=0→∃ x,(f a s).1=put a x∧ok x∧(tx x).length+2+2 * Wt (f a s).2≤2 * Wt s)
 (a:α) (s:Ps) (al:AllOk s) (h:(listP f a s).2.e=0):∃ l:List β,l≠[]∧(listP f a s).1=l.foldl put a∧(∀ x ∈ l,ok x)∧(joinS [44,32] (l.map tx)).length+2+2 * Wt (listP f a s).2≤2 * Wt s:=by
 unfold listP at h ⊢
 have h2:=(goes_listLoop g _ _ _).back h
 obtain ⟨x,x1,x2,x3⟩:=hf a s al h2
 obtain ⟨l,l1,l2,l3⟩:=loop_read g put tx ok hf _ _ _ ((g a s).all al) h
 refine ⟨x::l,List.cons_ne_nil _ _,by rw [l1,x1];rfl,fun y hy=>by rcases List.mem_cons.1 hy with rfl|hy;exact x2;exact l2 y hy,?_⟩
 have:=joinS_sum2 tx (List.cons_ne_nil x l)
 rw [List.map_cons (f:=fun x=>(tx x).length+2),List.sum_cons] at this
 omega
theorem names_read {s:Ps} (a:AllOk s) (h:(namesP s).2.e=0):(namesP s).1≠[]∧(∀ n ∈ (namesP s).1,WordOk n)∧(joinS [44,32] (namesP s).1).length+2+2 * Wt (namesP s).2≤2 * Wt s:=by
 obtain ⟨l,l0,l1,l2,l3⟩:=list_read (f:=fun a s=>(a++[(nameP s).1],(nameP s).2)) (fun a s=>goes_name s) (fun a x=>a++[x]) id WordOk (fun acc s a h=>by
  obtain ⟨h1,h2⟩:=wt_name a h
  refine ⟨_,rfl,h1,?_⟩
  show (nameP s).1.length+2+2 * Wt (nameP s).2≤2 * Wt s
  omega) [] s a h
 have e:(namesP s).1=l:=by rw [show (namesP s).1=_ from l1,snoc_fold]
 rw [e]
 rw [List.map_id] at l3
 exact ⟨l0,l2,l3⟩
theorem pairs_read {s:Ps} (a:AllOk s) (h:(listP pairItem [] s).2.e=0):(listP pairItem [] s).1≠[]∧(∀ o ∈ (listP pairItem [] s).1,WordOk o.1∧WordOk o.2)∧(joinS [44,32] ((listP pairItem [] s).1.map pairT)).length+2+2 * Wt (listP pairItem [] s).2≤2 * Wt s:=by
 obtain ⟨l,l0,l1,l2,l3⟩:=list_read goes_pairItem (fun a x=>a++[x]) pairT (fun o=>WordOk o.1∧WordOk o.2) (fun acc s a h=>by
  have g1:=goes_name s
  have h2:(wantP [61] (nameP s).2).e=0:=(goes_name _).back h
  have h1:(nameP s).2.e=0:=(goes_want [61] _).back h2
  obtain ⟨n1,w1⟩:=wt_name a h1
  have w2:=wt_want h2
  obtain ⟨n3,w3⟩:=wt_name ((g1.trans (goes_want [61] _)).all a) h
  refine ⟨_,rfl,⟨n1,n3⟩,?_⟩
  unfold pairT
  simp only [List.length_append,List.length_cons,List.length_nil] at w2 ⊢
  change _+2+2 * Wt (nameP (wantP [61] (nameP s).2)).2≤_
  omega) [] s a h
 rw [l1,snoc_fold]
 exact ⟨l0,l2,l3⟩
theorem orders_read {s:Ps} (a:AllOk s) (h:(listP orderItem [] s).2.e=0):(listP orderItem [] s).1≠[]∧(∀ o ∈ (listP orderItem [] s).1,WordOk o.1)∧(joinS [44,32] ((listP orderItem [] s).1.map ordT)).length+2+2 * Wt (listP orderItem [] s).2≤2 * Wt s:=by
 obtain ⟨l,l0,l1,l2,l3⟩:=list_read goes_orderItem (fun a x=>a++[x]) ordT (fun o=>WordOk o.1) (fun acc s a h=>by
  have h1:(nameP s).2.e=0:=(goes_maybe sDown _).back h
  obtain ⟨n1,w1⟩:=wt_name a h1
  refine ⟨_,rfl,n1,?_⟩
  change (ordT ((nameP s).1,isP (nameP s).2 sDown)).length+2+2 * Wt (maybeP sDown (nameP s).2)≤_
  unfold ordT maybeP
  simp only
  by_cases hd:isP (nameP s).2 sDown=true
  ·rw [if_pos hd,if_pos hd]
   have:=wt_is hd
   rw [show sDown.length=4 from rfl] at this
   simp only [List.length_append,List.length_cons,List.length_nil];omega
  ·rw [if_neg hd,if_neg hd];omega) [] s a h
 rw [l1,snoc_fold]
 exact ⟨l0,l2,l3⟩
theorem aggs_read {s:Ps} (a:AllOk s) (h:(listP aggItem [] s).2.e=0):(∀ g ∈ (listP aggItem [] s).1,g.1 ∈ aggWords∧(g.2.1=[]∨WordOk g.2.1)∧WordOk g.2.2)∧(joinS [44,32] ((listP aggItem [] s).1.map aggT)).length+2+2 * Wt (listP aggItem [] s).2≤2 * Wt s:=by
 obtain ⟨l,l0,l1,l2,l3⟩:=list_read goes_aggItem (fun a x=>a++[x]) aggT (fun g=>g.1 ∈ aggWords∧(g.2.1=[]∨WordOk g.2.1)∧WordOk g.2.2) (fun acc s a h=>by
  have g1:=goes_one aggWords s
  have g2:=g1.trans (goes_want [40] _)
  have g3:=g2.trans (goes_aggCol _)
  have g4:=g3.trans (goes_want [41] _)
  have g5:=g4.trans (goes_want sAs _)
  have h5:=(goes_name _).back h
  have h4:=(goes_want sAs _).back h5
  have h3:=(goes_want [41] _).back h4
  have h2:=(goes_aggCol _).back h3
  have h1:=(goes_want [40] _).back h2
  obtain ⟨k,k1,k2,w1⟩:=one_read h1
  have w2:=wt_want h2
  have w4:=wt_want h4
  have w5:=wt_want h5
  obtain ⟨n6,w6⟩:=wt_name (g5.all a) h
  have hcol:((aggCol (wantP [40] (oneP aggWords s).2)).1=[]∨WordOk (aggCol (wantP [40] (oneP aggWords s).2)).1)∧(aggCol (wantP [40] (oneP aggWords s).2)).1.length+Wt (aggCol (wantP [40] (oneP aggWords s).2)).2≤Wt (wantP [40] (oneP aggWords s).2):=by
   have g2a:=g2.all a
   generalize wantP [40] (oneP aggWords s).2=z at h3 g2a ⊢
   unfold aggCol at h3 ⊢
   by_cases hz:isP z [41]=true
   ·rw [if_pos hz];exact ⟨.inl rfl,by simp⟩
   ·rw [if_neg hz] at h3 ⊢
    obtain ⟨n1,w1⟩:=wt_name g2a h3
    exact ⟨.inr n1,by omega⟩
  have hop:aggOp (oneP aggWords s).1=aggWords.getD k []:=by
   rw [k2]
   unfold aggOp
   rw [if_neg (by omega),show 1+k - 1=k by omega]
  have hmem:aggWords.getD k [] ∈ aggWords:=by
   rw [List.getD_eq_getElem?_getD,List.getElem?_eq_getElem k1]
   exact List.getElem_mem _
  refine ⟨_,rfl,⟨by rw [hop];exact hmem,hcol.1,n6⟩,?_⟩
  unfold aggT
  simp only [hop,List.length_append,List.length_cons,List.length_nil,sAs] at w2 w4 w5 ⊢
  have hc2:=hcol.2
  change _+2+2 * Wt (nameP (wantP sAs (wantP [41] (aggCol (wantP [40] (oneP aggWords s).2)).2))).2≤_
  simp only [sAs] at w6 ⊢
  omega) [] s a h
 rw [l1,snoc_fold]
 exact ⟨l2,l3⟩
theorem keeps_read {s:Ps} (a:AllOk s) (h:(listP keepItem ([],[]) s).2.e=0):∃ xs ns,(listP keepItem ([],[]) s).1=(xs,ns)∧xs≠[]∧xs.length=ns.length∧(∀ x ∈ xs,ExOk x)∧(∀ n ∈ ns,WordOk n)∧(joinS [44,32] (keptL xs ns)).length+2+2 * Wt (listP keepItem ([],[]) s).2≤2 * Wt s:=by
 obtain ⟨l,l0,l1,l2,l3⟩:=list_read goes_keepItem (fun a p=>(a.1++[p.1],a.2++[p.2])) (fun p=>keepT p.1 p.2) (fun p:Ex × Str=>ExOk p.1∧WordOk p.2) (fun acc s a h=>by
  have g1:=goes_whole s
  have g2:=g1.trans (goes_want sAs _)
  have h2:=(goes_name _).back h
  have h1:=(goes_want sAs _).back h2
  obtain ⟨o1,o2,o3⟩:=whole_rd s a h1
  have o4:=text_heavy _ o1
  have w2:=wt_want h2
  obtain ⟨n3,w3⟩:=wt_name (g2.all a) h
  refine ⟨((wholeP s).1,(nameP (wantP sAs (wholeP s).2)).1),rfl,⟨⟨o1,o2⟩,n3⟩,?_⟩
  unfold keepT
  simp only [List.length_append,List.length_cons,List.length_nil,sAs] at w2 w3 ⊢
  change _+2+2 * Wt (nameP (wantP sAs (wholeP s).2)).2≤_
  simp only [sAs] at w3 ⊢
  omega) ([],[]) s a h
 have e1:(l.map (·.1)).zip (l.map (·.2))=l:=by
  rw [List.zip_map'];simp
 refine ⟨l.map (·.1),l.map (·.2),by rw [l1,keep_fold];simp,by simpa using l0,by simp,fun x hx=>?_,fun n hn=>?_,?_⟩
 ·obtain ⟨p,hp,rfl⟩:=List.mem_map.1 hx
  exact (l2 p hp).1
 ·obtain ⟨p,hp,rfl⟩:=List.mem_map.1 hn
  exact (l2 p hp).2
 ·rw [keptL_map _ _ (by simp),e1];exact l3
theorem words_len:∀ (l:List Str),(wordsT l).length≤(l.map fun s=>s.length+1).sum
 | []=>Nat.zero_le _
 | a::l=>by
  have ih:=words_len l
  unfold wordsT at ih ⊢
  rw [List.filter_cons]
  split
  ·rw [List.map_cons,List.sum_cons]
   cases hf:l.filter (fun s=>decide (s≠[])) with
   | nil=>show a.length≤_;omega
   | cons b r =>
    rw [hf] at ih
    show (a++([32]++joinS [32] (b::r))).length≤_
    simp only [List.length_append,List.length_cons,List.length_nil];omega
  ·rw [List.map_cons,List.sum_cons];omega
def PRd (n:Nat) (f:PQ):Prop:=∀ s,AllOk s→(f s).2.e=0→OkQ (f s).1∧deepQ (f s).1≤n∧partN ((f s).1,deepQ (f s).1)≤n∧(textQ (f s).1).length+2+2 * Wt (f s).2≤2 * Wt s∧(partT ((f s).1,textQ (f s).1)).length+2+2 * Wt (f s).2≤2 * Wt s
def QRd (n:Nat) (f:PQ):Prop:=∀ s,AllOk s→(f s).2.e=0→OkQ (f s).1∧deepQ (f s).1≤n∧(textQ (f s).1).length+2+2 * Wt (f s).2≤2 * Wt s
theorem part_read {n:Nat} (h:∀ m,n=m+1→QRd m (queryP (dparN m))):PRd n (partP (dparN n)):=fun s a e=>by
 unfold partP at e ⊢
 by_cases hx:isP s [40]=true
 ·rw [if_pos hx] at e ⊢
  cases n with
  | zero=>exact absurd e (fail_ok (by decide))
  | succ n =>
   change (wantP [41] (queryP (dparN n) (wantP [40] s)).2).e=0 at e
   show OkQ (queryP (dparN n) (wantP [40] s)).1∧_∧_∧(textQ (queryP (dparN n) (wantP [40] s)).1).length+2+2 * Wt (wantP [41] (queryP (dparN n) (wantP [40] s)).2)≤_∧(partT ((queryP (dparN n) (wantP [40] s)).1,textQ (queryP (dparN n) (wantP [40] s)).1)).length+2+2 * Wt (wantP [41] (queryP (dparN n) (wantP [40] s)).2)≤_
   have g1:=goes_want [40] s
   have g2:=goes_query (goes_dparN n) (wantP [40] s)
   have e2:=(goes_want [41] _).back e
   have e1:=g2.back e2
   have w1:=wt_want e1
   have w3:=wt_want e
   obtain ⟨q1,q2,q3⟩:=h n rfl _ (g1.all a) e2
   simp only [List.length_cons,List.length_nil] at w1 w3
   refine ⟨q1,by show deepQ (queryP (dparN n) (wantP [40] s)).1≤n+1;omega,?_,by omega,?_⟩
   ·show partN ((queryP (dparN n) (wantP [40] s)).1,deepQ (queryP (dparN n) (wantP [40] s)).1)≤n+1
    unfold partN
    split
    ·omega
    ·show deepQ (queryP (dparN n) (wantP [40] s)).1+1≤n+1
     omega
   ·unfold partT
    split
    ·rename_i hk
     obtain ⟨m,hm,hb⟩:=q1.scan_of hk
     rw [hb,textQ_scan] at q3
     simp only [hb]
     show m.length+_+_≤_
     omega
    ·simp only [List.length_cons,List.length_append,List.length_nil];omega
 ·rw [if_neg hx] at e ⊢
  obtain ⟨n1,w1⟩:=wt_name a e
  refine ⟨.scan _ n1,by rw [deepQ_scan];omega,by show partN (scanL _,_)≤n;unfold partN;rw [if_pos (show (scanL (nameP s).1).k=1 from rfl)];omega,?_,?_⟩
  ·rw [textQ_scan]
   show (nameP s).1.length+2+2 * Wt (nameP s).2≤_
   omega
  ·unfold partT
   rw [if_pos (show (scanL (nameP s).1).k=1 from rfl)]
   show (nameP s).1.length+2+2 * Wt (nameP s).2≤_
   omega
theorem joinP_read {n:Nat} {s:Ps} (h:PRd n (partP (dparN n))) (a:AllOk s) (e:(joinP (dparN n) s).2.e=0) :
 OkQ (joinP (dparN n) s).1.1∧partN ((joinP (dparN n) s).1.1,deepQ (joinP (dparN n) s).1.1)≤n∧(joinP (dparN n) s).1.2≠[]∧(∀ o ∈ (joinP (dparN n) s).1.2,WordOk o.1∧WordOk o.2) ∧
  (partT ((joinP (dparN n) s).1.1,textQ (joinP (dparN n) s).1.1)).length+2+(joinS [44,32] ((joinP (dparN n) s).1.2.map pairT)).length+8+2 * Wt (joinP (dparN n) s).2≤2 * Wt s:=by
 change (listP pairItem [] (wantP sOn (partP (dparN n) s).2)).2.e=0 at e
 have g1:=goes_part (goes_dparN n) s
 have g2:=g1.trans (goes_want sOn _)
 have e2:=(goes_list goes_pairItem [] _).back e
 have e1:=(goes_want sOn _).back e2
 obtain ⟨q1,q2,q3,q4,q5⟩:=h s a e1
 have w2:=wt_want e2
 obtain ⟨p1,p2,p3⟩:=pairs_read (g2.all a) e
 refine ⟨q1,q3,p1,p2,?_⟩
 show (partT ((partP (dparN n) s).1,textQ (partP (dparN n) s).1)).length+2+(joinS [44,32] ((listP pairItem [] (wantP sOn (partP (dparN n) s).2)).1.map pairT)).length+8+2 * Wt (listP pairItem [] (wantP sOn (partP (dparN n) s).2)).2≤_
 rw [show sOn.length=2 from rfl] at w2
 omega
theorem step_read {n:Nat} (h:PRd n (partP (dparN n))) {over:Pl} (ho:OkQ over) (hd:deepQ over≤n) {s:Ps} (a:AllOk s) (e:(stepP (dparN n) over s).2.e=0) :
 OkQ (stepP (dparN n) over s).1∧deepQ (stepP (dparN n) over s).1≤n∧(textQ (stepP (dparN n) over s).1).length+2 * Wt (stepP (dparN n) over s).2≤(textQ over).length+3+2 * Wt s:=by
 unfold stepP at e ⊢
 have e1:=(goes_stepK (goes_dparN n) over (oneP stepWords s).1 (oneP stepWords s).2).back e
 obtain ⟨k,k1,k2,w1⟩:=one_read e1
 have a1:=(goes_one stepWords s).all a
 rw [k2] at e ⊢
 generalize (oneP stepWords s).2=z at e w1 a1 ⊢
 match k,k1 with
 | 0,_ =>
  have w:sWhere.length+1+Wt z=Wt s:=w1
  rw [show sWhere.length=5 from rfl] at w
  change (wholeP z).2.e=0 at e
  obtain ⟨o1,o2,o3⟩:=whole_rd z a1 e
  have o4:=text_heavy _ o1
  refine ⟨.where_ over (wholeP z).1 ho ⟨o1,o2⟩,by show deepQ (.mk 2 [] [over] (wholeP z).1 [] [] [] [] [] 0)≤n;rw [deepQ_one _ _ _ _ _ _ _ _ _ (by decide)];exact hd,?_⟩
  show (textQ (.mk 2 [] [over] (wholeP z).1 [] [] [] [] [] 0)).length+2 * Wt (wholeP z).2≤_
  rw [textQ_one _ _ _ _ _ _ _ _ _ (by decide)]
  have hw:=words_len [sWhere,textE (wholeP z).1]
  show (textQ over++([32,124,32]++wordsT [sWhere,textE (wholeP z).1])).length+_≤_
  simp only [List.map_cons,List.map_nil,List.sum_cons,List.sum_nil,show sWhere.length=5 from rfl] at hw
  simp only [List.length_append,List.length_cons,List.length_nil]
  omega
 | 1,_ =>
  have w:sKeep.length+1+Wt z=Wt s:=w1
  rw [show sKeep.length=4 from rfl] at w
  change (listP keepItem ([],[]) z).2.e=0 at e
  obtain ⟨xs,ns,r1,r2,r3,r4,r5,r6⟩:=keeps_read a1 e
  have hm:(stepK (dparN n) over (1+1) z)=(.mk 3 [] [over] zEx ns xs [] [] [] 0,(listP keepItem ([],[]) z).2):=by
   show (Pl.mk 3 [] [over] zEx (listP keepItem ([],[]) z).1.2 (listP keepItem ([],[]) z).1.1 [] [] [] 0,(listP keepItem ([],[]) z).2)=_
   rw [r1]
  rw [hm]
  refine ⟨.keep over ns xs ho r3 r2 r4 r5,by show deepQ (.mk 3 [] [over] zEx ns xs [] [] [] 0)≤n;rw [deepQ_one _ _ _ _ _ _ _ _ _ (by decide)];exact hd,?_⟩
  show (textQ (.mk 3 [] [over] zEx ns xs [] [] [] 0)).length+_≤_
  rw [textQ_one _ _ _ _ _ _ _ _ _ (by decide)]
  have hw:=words_len [sKeep,joinS [44,32] (keptL xs ns)]
  show (textQ over++([32,124,32]++wordsT [sKeep,joinS [44,32] (keptL xs ns)])).length+_≤_
  simp only [List.map_cons,List.map_nil,List.sum_cons,List.sum_nil,show sKeep.length=4 from rfl] at hw
  simp only [List.length_append,List.length_cons,List.length_nil]
  omega
 | 2,_ =>
  have w:sJoin.length+1+Wt z=Wt s:=w1
  rw [show sJoin.length=4 from rfl] at w
  change (joinP (dparN n) z).2.e=0 at e
  obtain ⟨q1,q2,q3,q4,q5⟩:=joinP_read h a1 e
  refine ⟨.join 4 over (joinP (dparN n) z).1.1 (joinP (dparN n) z).1.2 (.inl rfl) ho q1 q3 q4,by show deepQ (.mk 4 [] [over,(joinP (dparN n) z).1.1] zEx [] [] (joinP (dparN n) z).1.2 [] [] 0)≤n;rw [deepQ_two _ _ _ _ _ _ _ _ _ _ (by decide),Nat.max_le];exact ⟨hd,q2⟩,?_⟩
  show (textQ (.mk 4 [] [over,(joinP (dparN n) z).1.1] zEx [] [] (joinP (dparN n) z).1.2 [] [] 0)).length+2 * Wt (joinP (dparN n) z).2≤_
  rw [textQ_two _ _ _ _ _ _ _ _ _ _ (by decide)]
  have hw:=words_len [sJoin,partT ((joinP (dparN n) z).1.1,textQ (joinP (dparN n) z).1.1),sOn,joinS [44,32] ((joinP (dparN n) z).1.2.map pairT)]
  show (textQ over++([32,124,32]++wordsT [sJoin,partT ((joinP (dparN n) z).1.1,textQ (joinP (dparN n) z).1.1),sOn,joinS [44,32] ((joinP (dparN n) z).1.2.map pairT)])).length+_≤_
  simp only [List.map_cons,List.map_nil,List.sum_cons,List.sum_nil,show sJoin.length=4 from rfl,show sOn.length=2 from rfl] at hw
  simp only [List.length_append,List.length_cons,List.length_nil]
  omega
 | 3,_ =>
  have w:sLeft.length+1+Wt z=Wt s:=w1
  rw [show sLeft.length=4 from rfl] at w
  change (joinP (dparN n) z).2.e=0 at e
  obtain ⟨q1,q2,q3,q4,q5⟩:=joinP_read h a1 e
  refine ⟨.join 5 over (joinP (dparN n) z).1.1 (joinP (dparN n) z).1.2 (.inr rfl) ho q1 q3 q4,by show deepQ (.mk 5 [] [over,(joinP (dparN n) z).1.1] zEx [] [] (joinP (dparN n) z).1.2 [] [] 0)≤n;rw [deepQ_two _ _ _ _ _ _ _ _ _ _ (by decide),Nat.max_le];exact ⟨hd,q2⟩,?_⟩
  show (textQ (.mk 5 [] [over,(joinP (dparN n) z).1.1] zEx [] [] (joinP (dparN n) z).1.2 [] [] 0)).length+2 * Wt (joinP (dparN n) z).2≤_
  rw [textQ_two _ _ _ _ _ _ _ _ _ _ (by decide)]
  have hw:=words_len [sLeft,partT ((joinP (dparN n) z).1.1,textQ (joinP (dparN n) z).1.1),sOn,joinS [44,32] ((joinP (dparN n) z).1.2.map pairT)]
  show (textQ over++([32,124,32]++wordsT [sLeft,partT ((joinP (dparN n) z).1.1,textQ (joinP (dparN n) z).1.1),sOn,joinS [44,32] ((joinP (dparN n) z).1.2.map pairT)])).length+_≤_
  simp only [List.map_cons,List.map_nil,List.sum_cons,List.sum_nil,show sLeft.length=4 from rfl,show sOn.length=2 from rfl] at hw
  simp only [List.length_append,List.length_cons,List.length_nil]
  omega
 | 4,_ =>
  have w:sGroup.length+1+Wt z=Wt s:=w1
  rw [show sGroup.length=5 from rfl] at w
  change (groupAggs (wantP [58] (groupNames z).2)).2.e=0 at e
  have g1:=goes_groupNames z
  have g2:=g1.trans (goes_want [58] _)
  have e3:=(goes_groupAggs _).back e
  have e2:=(goes_want [58] _).back e3
  have w2:=wt_want e3
  have hn:(∀ m ∈ (groupNames z).1,WordOk m)∧(joinS [44,32] (groupNames z).1).length+2 * Wt (groupNames z).2≤2 * Wt z:=by
   unfold groupNames at e2 ⊢
   split
   ·exact ⟨fun m hm=>by simp at hm,by simp [joinS]⟩
   ·rename_i hx
    rw [if_neg hx] at e2
    obtain ⟨_,p2,p3⟩:=names_read a1 e2
    exact ⟨p2,by omega⟩
  have hg:(∀ g ∈ (groupAggs (wantP [58] (groupNames z).2)).1,g.1 ∈ aggWords∧(g.2.1=[]∨WordOk g.2.1)∧WordOk g.2.2)∧(joinS [44,32] ((groupAggs (wantP [58] (groupNames z).2)).1.map aggT)).length+2 * Wt (groupAggs (wantP [58] (groupNames z).2)).2≤2 * Wt (wantP [58] (groupNames z).2):=by
   have a2:=g2.all a1
   generalize wantP [58] (groupNames z).2=y at e a2 ⊢
   unfold groupAggs at e ⊢
   split
   ·rename_i hx
    rw [if_pos hx] at e
    obtain ⟨p2,p3⟩:=aggs_read a2 e
    exact ⟨p2,by omega⟩
   ·exact ⟨fun m hm=>by simp at hm,by simp [joinS]⟩
  refine ⟨.group over (groupNames z).1 (groupAggs (wantP [58] (groupNames z).2)).1 ho hn.1 hg.1,by show deepQ (.mk 6 [] [over] zEx (groupNames z).1 [] [] (groupAggs (wantP [58] (groupNames z).2)).1 [] 0)≤n;rw [deepQ_one _ _ _ _ _ _ _ _ _ (by decide)];exact hd,?_⟩
  show (textQ (.mk 6 [] [over] zEx (groupNames z).1 [] [] (groupAggs (wantP [58] (groupNames z).2)).1 [] 0)).length+2 * Wt (groupAggs (wantP [58] (groupNames z).2)).2≤_
  rw [textQ_one _ _ _ _ _ _ _ _ _ (by decide)]
  have hw:=words_len [sGroup,joinS [44,32] (groupNames z).1,[58],joinS [44,32] ((groupAggs (wantP [58] (groupNames z).2)).1.map aggT)]
  show (textQ over++([32,124,32]++wordsT [sGroup,joinS [44,32] (groupNames z).1,[58],joinS [44,32] ((groupAggs (wantP [58] (groupNames z).2)).1.map aggT)])).length+_≤_
  have h1:=hn.2
  have h2:=hg.2
  simp only [List.map_cons,List.map_nil,List.sum_cons,List.sum_nil,List.length_cons,List.length_nil,show sGroup.length=5 from rfl] at hw w2
  simp only [List.length_append,List.length_cons,List.length_nil]
  omega
 | 5,_ =>
  have w:sUnion.length+1+Wt z=Wt s:=w1
  rw [show sUnion.length=5 from rfl] at w
  change (partP (dparN n) z).2.e=0 at e
  obtain ⟨q1,q2,q3,q4,q5⟩:=h z a1 e
  refine ⟨.union over (partP (dparN n) z).1 ho q1,by show deepQ (.mk 7 [] [over,(partP (dparN n) z).1] zEx [] [] [] [] [] 0)≤n;rw [deepQ_two _ _ _ _ _ _ _ _ _ _ (by decide),Nat.max_le];exact ⟨hd,q3⟩,?_⟩
  show (textQ (.mk 7 [] [over,(partP (dparN n) z).1] zEx [] [] [] [] [] 0)).length+2 * Wt (partP (dparN n) z).2≤_
  rw [textQ_two _ _ _ _ _ _ _ _ _ _ (by decide)]
  have hw:=words_len [sUnion,partT ((partP (dparN n) z).1,textQ (partP (dparN n) z).1)]
  show (textQ over++([32,124,32]++wordsT [sUnion,partT ((partP (dparN n) z).1,textQ (partP (dparN n) z).1)])).length+_≤_
  simp only [List.map_cons,List.map_nil,List.sum_cons,List.sum_nil,show sUnion.length=5 from rfl] at hw
  simp only [List.length_append,List.length_cons,List.length_nil]
  omega
 | 6,_ =>
  have w:sDistinct.length+1+Wt z=Wt s:=w1
  rw [show sDistinct.length=8 from rfl] at w
  refine ⟨.dist over ho,by show deepQ (.mk 8 [] [over] zEx [] [] [] [] [] 0)≤n;rw [deepQ_one _ _ _ _ _ _ _ _ _ (by decide)];exact hd,?_⟩
  show (textQ (.mk 8 [] [over] zEx [] [] [] [] [] 0)).length+2 * Wt z≤_
  rw [textQ_one _ _ _ _ _ _ _ _ _ (by decide)]
  show (textQ over++([32,124,32]++sDistinct)).length+_≤_
  simp only [List.length_append,List.length_cons,List.length_nil,show sDistinct.length=8 from rfl]
  omega
 | 7,_ =>
  have w:sFirst.length+1+Wt z=Wt s:=w1
  rw [show sFirst.length=5 from rfl] at w
  change (firstBy (tokenP 2 z).2).2.e=0 at e
  have g1:=goes_token 2 (by decide) z
  have e1:=(goes_firstBy _).back e
  obtain ⟨n0,n1,w2⟩:=wt_num a1 e1
  have hb:(∀ o ∈ (firstBy (tokenP 2 z).2).1,WordOk o.1)∧(if (firstBy (tokenP 2 z).2).1=[] then 0 else 3)+(joinS [44,32] ((firstBy (tokenP 2 z).2).1.map ordT)).length+2 * Wt (firstBy (tokenP 2 z).2).2≤2 * Wt (tokenP 2 z).2:=by
   have a2:=g1.all a1
   generalize (tokenP 2 z).2=y at e a2 ⊢
   unfold firstBy at e ⊢
   split
   ·rename_i hx
    rw [if_pos hx] at e
    obtain ⟨p1,p2,p3⟩:=orders_read ((goes_adv_is hx).all a2) e
    have:=wt_is hx
    rw [show sBy.length=2 from rfl] at this
    refine ⟨p2,?_⟩
    rw [if_neg p1];omega
   ·exact ⟨fun m hm=>by simp at hm,by simp [joinS]⟩
  refine ⟨.first over (tokenP 2 z).1.n (firstBy (tokenP 2 z).2).1 ho n0 n1 hb.1,by show deepQ (.mk 9 [] [over] zEx [] [] [] [] (firstBy (tokenP 2 z).2).1 (tokenP 2 z).1.n)≤n;rw [deepQ_one _ _ _ _ _ _ _ _ _ (by decide)];exact hd,?_⟩
  show (textQ (.mk 9 [] [over] zEx [] [] [] [] (firstBy (tokenP 2 z).2).1 (tokenP 2 z).1.n)).length+2 * Wt (firstBy (tokenP 2 z).2).2≤_
  rw [textQ_one _ _ _ _ _ _ _ _ _ (by decide)]
  have hw:=words_len [sFirst,Lib.itoa (tokenP 2 z).1.n,if (firstBy (tokenP 2 z).2).1=[] then [] else sBy,joinS [44,32] ((firstBy (tokenP 2 z).2).1.map ordT)]
  show (textQ over++([32,124,32]++wordsT [sFirst,Lib.itoa (tokenP 2 z).1.n,if (firstBy (tokenP 2 z).2).1=[] then [] else sBy,joinS [44,32] ((firstBy (tokenP 2 z).2).1.map ordT)])).length+_≤_
  have h1:=hb.2
  by_cases hz:(firstBy (tokenP 2 z).2).1=[]
  ·rw [if_pos hz] at hw h1 ⊢
   simp only [List.map_cons,List.map_nil,List.sum_cons,List.sum_nil,List.length_nil,show sFirst.length=5 from rfl] at hw
   simp only [List.length_append,List.length_cons,List.length_nil]
   omega
  ·rw [if_neg hz] at hw h1 ⊢
   simp only [List.map_cons,List.map_nil,List.sum_cons,List.sum_nil,show sFirst.length=5 from rfl,show sBy.length=2 from rfl] at hw
   simp only [List.length_append,List.length_cons,List.length_nil]
   omega
 | k+8,h=>exact absurd h (by show ¬ k+8 < 8;omega)
theorem loopQ_read {n:Nat} (h:PRd n (partP (dparN n))):∀ (fuel:Nat) (q:Pl) (s:Ps) (W0:Nat),AllOk s→(queryLoop (dparN n) fuel q s).2.e=0→OkQ q→deepQ q≤n→(textQ q).length+2+2 * Wt s≤W0 →
 OkQ (queryLoop (dparN n) fuel q s).1∧deepQ (queryLoop (dparN n) fuel q s).1≤n∧(textQ (queryLoop (dparN n) fuel q s).1).length+2+2 * Wt (queryLoop (dparN n) fuel q s).2≤W0
 | 0,q,s,W0,a,e,o,d,w=>⟨o,d,w⟩
 | fuel+1,q,s,W0,a,e,o,d,w=>by
  by_cases hx:isP s [124]=true
  ·rw [query_more hx] at e ⊢
   have ga:=goes_adv_is hx
   have gs:=goes_step (goes_dparN n) q (advP s)
   have e1:=(goes_queryLoop (goes_dparN n) fuel _ _).back e
   obtain ⟨q1,q2,q3⟩:=step_read h o d (ga.all a) e1
   have w1:=wt_is hx
   simp only [List.length_cons,List.length_nil] at w1
   exact loopQ_read h fuel _ _ W0 ((ga.trans gs).all a) e q1 q2 (by omega)
  ·rw [query_end (by simpa using hx)] at e ⊢
   exact ⟨o,d,w⟩
theorem query_read:∀ n,QRd n (queryP (dparN n)):=fun n=>by
 induction n with
 | zero =>
  have hp:PRd 0 (partP (dparN 0)):=part_read fun m hm=>by cases hm
  intro s a e
  have e1:=(goes_queryLoop (goes_dparN 0) _ _ _).back e
  obtain ⟨q1,q2,q3,q4,q5⟩:=hp s a e1
  exact loopQ_read hp _ _ _ _ ((goes_part (goes_dparN 0) s).all a) e q1 q2 q4
 | succ n ih =>
  have hp:PRd (n+1) (partP (dparN (n+1))):=part_read fun m hm=>by cases hm;exact ih
  intro s a e
  have e1:=(goes_queryLoop (goes_dparN (n+1)) _ _ _).back e
  obtain ⟨q1,q2,q3,q4,q5⟩:=hp s a e1
  exact loopQ_read hp _ _ _ _ ((goes_part (goes_dparN (n+1)) s).all a) e q1 q2 q4
theorem topQ_read {s:Ps} (a:AllOk s) (e:(topQ s).2.e=0):OkQ (topQ s).1∧deepQ (topQ s).1≤31∧(textQ (topQ s).1).length+2+2 * Wt (topQ s).2≤2 * Wt s:=query_read 31 s a e
end Go.Proofs.YtonkjhmkppeagaaGreatDoor.Pz
namespace Go.Proofs.YtonkjhmkppeagaaGreatDoor.Pz
open Go Go.RowKit Lx
theorem all_err {α:Type} {z x:α} {s:Ps} (h:s.e≠0):allR z s x=(z,s.a,s.e):=by unfold allR;rw [allP_err h,if_neg h]
end Go.Proofs.YtonkjhmkppeagaaGreatDoor.Pz
