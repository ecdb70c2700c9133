/- The tree of a plan: folds, its tokens, its text, how deep; what is well formed. No program in sight. The plain law of the reader: a plan's own tokens are read as that plan, or lie too deep. No program in sight. The plain law of a plan's text: it is cut into the plan's tokens. No program in sight. The plain law of the reader of queries: what it reads is well formed, no deeper than it may be, its text not much longer than what it was read from. No program in sight. The plain law of queries: what is read has a text that tells it again; put in brackets it is read as the same, or lies too deep. -/
import Derived.Test.YtonkjhmkppeagaaGreatDoorMPsB
import Derived.Test.YtonkjhmkppeagaaGreatDoorMTree
import Derived.Test.YtonkjhmkppeagaaGreatDoorMTxB
set_option linter.unusedVariables false
namespace Go.Proofs.YtonkjhmkppeagaaGreatDoor.Pz
open Go Go.RowKit Lx
theorem Pl.ind {P:Pl → Prop} (h:∀ p,(∀ a ∈ p.xs,P a) → P p):∀ p,P p
 | .mk k nm xs c n e o g r t => h (.mk k nm xs c n e o g r t) fun a ha => Pl.ind h a
termination_by x => SizeOf.sizeOf x
decreasing_by
 have:=List.sizeOf_lt_of_mem (show a ∈ xs from ha)
 simp only [Pl.mk.sizeOf_spec]
 omega
def foldQ {α:Type} (F:Pl → List (Pl × α) → α):Pl → α
 | .mk k nm xs c n e o g r t => F (.mk k nm xs c n e o g r t) (xs.attach.map fun a => (a.1,foldQ F a.1))
termination_by x => SizeOf.sizeOf x
decreasing_by
 have:=List.sizeOf_lt_of_mem a.2
 simp only [Pl.mk.sizeOf_spec]
 omega
theorem foldQ_eq {α:Type} (F:Pl → List (Pl × α) → α) (p:Pl):foldQ F p = F p (p.xs.map fun a => (a,foldQ F a)):=by
 cases p with
 | mk k nm xs c n e o g r t =>
  rw [foldQ]
  congr 1
  exact List.attach_map_val (f:=fun a:Pl => (a,foldQ F a))
def wordsT (l:List Str):Str:=joinS [32] (l.filter fun s => decide (s ≠ []))
def partT (b:Pl × Str):Str:=if b.1.k = 1 then b.1.nm else 40 :: (b.2 ++ [41])
def secT (r:List (Pl × Str)):Str:=match r with | [] => [] | b :: _ => partT b
def pairT (o:Str × Str):Str:=o.1 ++ ([32,61,32] ++ o.2)
def aggT (a:Str × Str × Str):Str:=a.1 ++ (40 :: (a.2.1 ++ ([41,32,97,115,32] ++ a.2.2)))
def keepT (x:Ex) (n:Str):Str:=textE x ++ ([32,97,115,32] ++ n)
def keptL:List Ex → List Str → List Str
 | [],_ => []
 | x :: r,ns => keepT x (ns.headD []) :: keptL r ns.tail
def ordT (o:Str × Bool):Str:=if o.2 = true then o.1 ++ [32,100,111,119,110] else o.1
def stepT (p:Pl) (second:Str):Str :=
 if p.k = 2 then wordsT [sWhere,textE p.cond]
 else if p.k = 3 then wordsT [sKeep,joinS [44,32] (keptL p.exprs p.names)]
 else if p.k = 4 then wordsT [sJoin,second,sOn,joinS [44,32] (p.on.map pairT)]
 else if p.k = 5 then wordsT [sLeft,second,sOn,joinS [44,32] (p.on.map pairT)]
 else if p.k = 6 then wordsT [sGroup,joinS [44,32] p.names,[58],joinS [44,32] (p.aggs.map aggT)]
 else if p.k = 7 then wordsT [sUnion,second]
 else if p.k = 8 then sDistinct
 else wordsT [sFirst,Lib.itoa p.cnt,if p.ord = [] then [] else sBy,joinS [44,32] (p.ord.map ordT)]
def textQF (p:Pl) (l:List (Pl × Str)):Str :=
 if p.k = 1 then p.nm else match l with | [] => p.nm | a :: r => a.2 ++ ([32,124,32] ++ stepT p (secT r))
def textQ:Pl → Str:=foldQ textQF
def partK (b:Pl × List Tk):List Tk:=if b.1.k = 1 then [(1,b.1.nm,0)] else (4,[40],0) :: (b.2 ++ [(4,[41],0)])
def secK (r:List (Pl × List Tk)):List Tk:=match r with | [] => [] | b :: _ => partK b
def pairK (o:Str × Str):List Tk:=[(1,o.1,0),(4,[61],0),(1,o.2,0)]
def colK (c:Str):List Tk:=if c = [] then [] else [(1,c,0)]
def aggK (a:Str × Str × Str):List Tk:=(1,a.1,0) :: (4,[40],0) :: (colK a.2.1 ++ [(4,[41],0),(1,sAs,0),(1,a.2.2,0)])
def keepK (x:Ex) (n:Str):List Tk:=tkE x ++ [(1,sAs,0),(1,n,0)]
def keptK:List Ex → List Str → List (List Tk)
 | [],_ => []
 | x :: r,ns => keepK x (ns.headD []) :: keptK r ns.tail
def ordK (o:Str × Bool):List Tk:=(1,o.1,0) :: (if o.2 = true then [(1,sDown,0)] else [])
def byK (os:List (Str × Bool)):List Tk:=if os = [] then [] else (1,sBy,0) :: joinK (os.map ordK)
def stepTk (p:Pl) (second:List Tk):List Tk :=
 if p.k = 2 then (1,sWhere,0) :: tkE p.cond
 else if p.k = 3 then (1,sKeep,0) :: joinK (keptK p.exprs p.names)
 else if p.k = 4 then (1,sJoin,0) :: (second ++ (1,sOn,0) :: joinK (p.on.map pairK))
 else if p.k = 5 then (1,sLeft,0) :: (second ++ (1,sOn,0) :: joinK (p.on.map pairK))
 else if p.k = 6 then (1,sGroup,0) :: (joinK (p.names.map fun n => [(1,n,0)]) ++ (4,[58],0) :: joinK (p.aggs.map aggK))
 else if p.k = 7 then (1,sUnion,0) :: second
 else if p.k = 8 then [(1,sDistinct,0)]
 else (1,sFirst,0) :: (2,[],p.cnt) :: byK p.ord
def tkQF (p:Pl) (l:List (Pl × List Tk)):List Tk :=
 if p.k = 1 then [(1,p.nm,0)] else match l with | [] => [(1,p.nm,0)] | a :: r => a.2 ++ ((4,[124],0) :: stepTk p (secK r))
def tkQ:Pl → List Tk:=foldQ tkQF
def partN (b:Pl × Nat):Nat:=if b.1.k = 1 then 0 else b.2 + 1
def secN (r:List (Pl × Nat)):Nat:=match r with | [] => 0 | b :: _ => partN b
def deepQF (p:Pl) (l:List (Pl × Nat)):Nat:=if p.k = 1 then 0 else match l with | [] => 0 | a :: r => max a.2 (secN r)
def deepQ:Pl → Nat:=foldQ deepQF
def WordOk (n:Str):Prop:=TokOk ⟨1,n,0,0⟩
def ExOk (x:Ex):Prop:=OkE x ∧ deepE x + 1 ≤ 32
inductive OkQ:Pl → Prop
 | scan (n:Str) (h:WordOk n):OkQ (scanL n)
 | where_ (a:Pl) (x:Ex) (ha:OkQ a) (hx:ExOk x):OkQ (.mk 2 [] [a] x [] [] [] [] [] 0)
 | keep (a:Pl) (ns:List Str) (xs:List Ex) (ha:OkQ a) (hl:xs.length = ns.length) (h0:xs ≠ []) (hx:∀ x ∈ xs,ExOk x) (hn:∀ n ∈ ns,WordOk n):OkQ (.mk 3 [] [a] zEx ns xs [] [] [] 0)
 | join (k:Int) (a b:Pl) (on:List (Str × Str)) (hk:k = 4 ∨ k = 5) (ha:OkQ a) (hb:OkQ b) (h0:on ≠ []) (ho:∀ o ∈ on,WordOk o.1 ∧ WordOk o.2):OkQ (.mk k [] [a,b] zEx [] [] on [] [] 0)
 | group (a:Pl) (ns:List Str) (gs:List (Str × Str × Str)) (ha:OkQ a) (hn:∀ n ∈ ns,WordOk n) (hg:∀ g ∈ gs,g.1 ∈ aggWords ∧ (g.2.1 = [] ∨ WordOk g.2.1) ∧ WordOk g.2.2):OkQ (.mk 6 [] [a] zEx ns [] [] gs [] 0)
 | union (a b:Pl) (ha:OkQ a) (hb:OkQ b):OkQ (.mk 7 [] [a,b] zEx [] [] [] [] [] 0)
 | dist (a:Pl) (ha:OkQ a):OkQ (.mk 8 [] [a] zEx [] [] [] [] [] 0)
 | first (a:Pl) (n:Int) (os:List (Str × Bool)) (ha:OkQ a) (h0:0 ≤ n) (h1:n ≤ 9223372036854775807) (ho:∀ o ∈ os,WordOk o.1):OkQ (.mk 9 [] [a] zEx [] [] [] [] os n)
section
variable (k:Int) (a b:Pl) (c:Ex) (n:List Str) (e:List Ex) (o:List (Str × Str)) (g:List (Str × Str × Str)) (r:List (Str × Bool)) (t:Int)
theorem textQ_scan (m:Str):textQ (scanL m) = m:=by unfold textQ;rw [foldQ_eq];rfl
theorem tkQ_scan (m:Str):tkQ (scanL m) = [(1,m,0)]:=by unfold tkQ;rw [foldQ_eq];rfl
theorem deepQ_scan (m:Str):deepQ (scanL m) = 0:=by unfold deepQ;rw [foldQ_eq];rfl
theorem textQ_one (hk:k ≠ 1):textQ (.mk k [] [a] c n e o g r t) = textQ a ++ ([32,124,32] ++ stepT (.mk k [] [a] c n e o g r t) []):=by
 unfold textQ;rw [foldQ_eq];unfold textQF;rw [if_neg (show ¬ (Pl.mk k [] [a] c n e o g r t).k = 1 from hk)];rfl
theorem tkQ_one (hk:k ≠ 1):tkQ (.mk k [] [a] c n e o g r t) = tkQ a ++ ((4,[124],0) :: stepTk (.mk k [] [a] c n e o g r t) []):=by
 unfold tkQ;rw [foldQ_eq];unfold tkQF;rw [if_neg (show ¬ (Pl.mk k [] [a] c n e o g r t).k = 1 from hk)];rfl
theorem deepQ_one (hk:k ≠ 1):deepQ (.mk k [] [a] c n e o g r t) = deepQ a:=by
 unfold deepQ;rw [foldQ_eq];unfold deepQF;rw [if_neg (show ¬ (Pl.mk k [] [a] c n e o g r t).k = 1 from hk)];exact Nat.max_eq_left (Nat.zero_le _)
theorem textQ_two (hk:k ≠ 1):textQ (.mk k [] [a,b] c n e o g r t) = textQ a ++ ([32,124,32] ++ stepT (.mk k [] [a,b] c n e o g r t) (partT (b,textQ b))):=by
 unfold textQ;rw [foldQ_eq];unfold textQF;rw [if_neg (show ¬ (Pl.mk k [] [a,b] c n e o g r t).k = 1 from hk)];rfl
theorem tkQ_two (hk:k ≠ 1):tkQ (.mk k [] [a,b] c n e o g r t) = tkQ a ++ ((4,[124],0) :: stepTk (.mk k [] [a,b] c n e o g r t) (partK (b,tkQ b))):=by
 unfold tkQ;rw [foldQ_eq];unfold tkQF;rw [if_neg (show ¬ (Pl.mk k [] [a,b] c n e o g r t).k = 1 from hk)];rfl
theorem deepQ_two (hk:k ≠ 1):deepQ (.mk k [] [a,b] c n e o g r t) = max (deepQ a) (partN (b,deepQ b)):=by
 unfold deepQ;rw [foldQ_eq];unfold deepQF;rw [if_neg (show ¬ (Pl.mk k [] [a,b] c n e o g r t).k = 1 from hk)];rfl
end
theorem OkQ.scan_of {b:Pl} (h:OkQ b) (hk:b.k = 1):∃ n,WordOk n ∧ b = scanL n:=by
 cases h with
 | scan n h => exact ⟨n,h,rfl⟩
 | join k a b on hk' ha hb h0 ho =>
  exfalso
  have hk2:k = 1:=hk
  omega
 | where_ a x ha hx => exact absurd (show (2:Int) = 1 from hk) (by decide)
 | keep a ns xs ha hl h0 hx hn => exact absurd (show (3:Int) = 1 from hk) (by decide)
 | group a ns gs ha hn hg => exact absurd (show (6:Int) = 1 from hk) (by decide)
 | union a b ha hb => exact absurd (show (7:Int) = 1 from hk) (by decide)
 | dist a ha => exact absurd (show (8:Int) = 1 from hk) (by decide)
 | first a n os ha h0 h1 ho => exact absurd (show (9:Int) = 1 from hk) (by decide)
end Go.Proofs.YtonkjhmkppeagaaGreatDoor.Pz
namespace Go.Proofs.YtonkjhmkppeagaaGreatDoor.Pz
open Go Go.RowKit Lx
def Sg (l:List Str) (ts:List Tk):Prop:=∀ h r,ts = h :: r → h.1 = 4 ∧ h.2.1 ∈ l
theorem Sg.nil (l:List Str):Sg l []:=fun h r e => by cases e
theorem Sg.cons {l:List Str} {x:Str} (hx:x ∈ l) (r:List Tk):Sg l ((4,x,0) :: r):=fun h r' e => by cases e;exact ⟨rfl,hx⟩
theorem Sg.no {l:List Str} {ts:List Tk} {x:Str} (h:Sg l ts) (hx:x ∉ l):isK ts x = false:=by
 cases ts with
 | nil => rfl
 | cons t r =>
  show decide ((t.1 = 1 ∨ t.1 = 4) ∧ t.2.1 = x) = false
  rw [decide_eq_false]
  rintro ⟨_,rfl⟩
  exact hx (h t r rfl).2
theorem Sg.mono {l l':List Str} {ts:List Tk} (h:Sg l ts) (hl:∀ x ∈ l,x ∈ l'):Sg l' ts:=fun t r e => ⟨(h t r e).1,hl _ (h t r e).2⟩
theorem Sg.stop {l:List Str} {ts:List Tk} (h:Sg l ts) (hl:∀ x ∈ l,rankOp x = 0 ∧ x ≠ [40]):stopK 1 ts:=fun o ho => by
 cases ts with
 | nil => exact absurd ho (by show ¬ false = true;decide)
 | cons t r =>
  have ho':decide ((t.1 = 1 ∨ t.1 = 4) ∧ t.2.1 = o) = true:=ho
  rw [decide_eq_true_eq] at ho'
  obtain ⟨_,rfl⟩:=ho'
  obtain ⟨h1,h2⟩:=hl _ (h t r rfl).2
  exact ⟨by omega,h2⟩
theorem Sg.kind {l:List Str} {ts:List Tk} {s:Ps} (h:Sg l ts) (a:At s ts):(peekP s).k ≠ 1:=by
 cases ts with
 | nil => rw [a.nilK];decide
 | cons t r =>
  have e:(peekP s).k = t.1:=congrArg (·.1) a.peek.1
  rw [e,(h t r rfl).1];decide
theorem name_at {s:Ps} {n:Str} {m:Int} {rest:List Tk} (a:At s ((1,n,m) :: rest)):nameP s = (n,advP s) ∧ At (advP s) rest:=by
 obtain ⟨p1,p2,p3⟩:=a.peek
 have k1:(peekP s).k = 1:=congrArg (·.1) p1
 have t1:(peekP s).t = n:=congrArg (·.2.1) p1
 refine ⟨?_,p2⟩
 unfold nameP tokenP
 rw [if_pos k1]
 simp only [t1]
theorem num_at {s:Ps} {t:Str} {m:Int} {rest:List Tk} (a:At s ((2,t,m) :: rest)):(tokenP 2 s).1.n = m ∧ (tokenP 2 s).2 = advP s ∧ At (advP s) rest:=by
 obtain ⟨p1,p2,p3⟩:=a.peek
 have k1:(peekP s).k = 2:=congrArg (·.1) p1
 have n1:(peekP s).n = m:=congrArg (·.2.2) p1
 unfold tokenP
 rw [if_pos k1]
 exact ⟨n1,rfl,p2⟩
theorem want_at {s:Ps} {k:Int} {x:Str} {m:Int} {rest:List Tk} (hk:k = 1 ∨ k = 4) (a:At s ((k,x,m) :: rest)):wantP x s = advP s ∧ At (advP s) rest:=by
 refine ⟨?_,a.peek.2.1⟩
 unfold wantP
 rw [if_pos]
 rw [a.is,isK_hd,decide_eq_true_eq]
 exact ⟨hk,rfl⟩
theorem is_at {s:Ps} {k:Int} {x:Str} {m:Int} {rest:List Tk} (hk:k = 1 ∨ k = 4) (a:At s ((k,x,m) :: rest)) (y:Str):isP s y = decide (x = y):=by
 rw [a.is,isK_hd]
 by_cases h:x = y
 ·rw [decide_eq_true ⟨hk,h⟩,decide_eq_true h]
 ·rw [decide_eq_false (fun e => h e.2),decide_eq_false h]
def whichW (w:Str):List Str → Option Nat
 | [] => none
 | o :: r => if w = o then some 0 else (whichW w r).map (· + 1)
theorem firstOp_at {s:Ps} {k:Int} {x:Str} {m:Int} {rest:List Tk} (hk:k = 1 ∨ k = 4) (a:At s ((k,x,m) :: rest)):∀ ws,firstOp ws s = whichW x ws
 | [] => rfl
 | o :: r => by
  unfold firstOp whichW
  rw [is_at hk a,firstOp_at hk a r]
  by_cases h:x = o
  ·rw [if_pos (decide_eq_true h),if_pos h]
  ·rw [if_neg (by rw [decide_eq_false h];decide),if_neg h]
theorem one_at {s:Ps} {k:Int} {x:Str} {m:Int} {rest:List Tk} {ws:List Str} {j:Nat} (hk:k = 1 ∨ k = 4) (a:At s ((k,x,m) :: rest)) (hj:whichW x ws = some j):oneP ws s = (1 + j,advP s) ∧ At (advP s) rest:=by
 refine ⟨?_,a.peek.2.1⟩
 unfold oneP
 rw [oneFrom_is,firstOp_at hk a,hj]
theorem which_mem:∀ {ws:List Str} {x:Str},x ∈ ws → ∃ j,whichW x ws = some j ∧ ws.getD j [] = x
 | o :: r,x,h => by
  unfold whichW
  by_cases e:x = o
  ·rw [if_pos e];exact ⟨0,rfl,e.symm⟩
  ·rw [if_neg e]
   obtain ⟨j,h1,h2⟩:=which_mem (ws:=r) (x:=x) (by rcases List.mem_cons.1 h with h | h;exact absurd h e;exact h)
   rw [h1]
   exact ⟨j + 1,rfl,by simpa using h2⟩
theorem list_loop_back {α β:Type} {f:α → Ps → α × Ps} {tk:β → List Tk} {put:α → β → α} {stop:List Tk → Prop} {item:β → Prop}
 (hf:∀ x a s r,item x → At s (tk x ++ r) → stop r → f a s = (put a x,advN s (tk x).length)) (hc:∀ r,stop ((4,[44],0) :: r)) {rest:List Tk} (hr:stop rest) (hn:isK rest [44] = false) :
 ∀ (xs:List β) (x0:β) (fuel:Nat) (a:α) (s:Ps),(∀ x ∈ x0 :: xs,item x) → At s (joinK ((x0 :: xs).map tk) ++ rest) → s.T.length < fuel + s.i →
  listLoop f fuel (f a s).1 (f a s).2 = ((x0 :: xs).foldl put a,advN s (joinK ((x0 :: xs).map tk)).length)
 | [],x0,fuel,a,s,hi,h,hfu => by
  change At s (tk x0 ++ rest) at h
  rw [hf x0 a s rest (hi x0 (by simp)) h hr]
  simp only
  rw [list_end (by rw [h.app.is];exact hn)]
  rfl
 | x1 :: xs,x0,fuel,a,s,hi,h,hfu => by
  change At s ((tk x0 ++ ((4,[44],0) :: joinK ((x1 :: xs).map tk))) ++ rest) at h
  rw [List.append_assoc,List.cons_append] at h
  rw [hf x0 a s _ (hi x0 (by simp)) h (hc _)]
  simp only
  have a2:=h.app
  obtain ⟨p1,p2,p3⟩:=a2.peek
  have p3':s.i + (tk x0).length < s.T.length:=p3
  have ih:=list_loop_back hf hc hr hn xs x1 (fuel - 1) (put a x0) _ (fun x hx => hi x (List.mem_cons_of_mem _ hx)) p2 (by
   show s.T.length < fuel - 1 + (s.i + (tk x0).length + 1)
   omega)
  obtain ⟨fu,rfl⟩:∃ fu,fuel = fu + 1:=⟨fuel - 1,by omega⟩
  rw [list_more (by rw [a2.is,isK_hd];decide)]
  rw [show fu + 1 - 1 = fu from rfl] at ih
  rw [ih,advN_one,advN_advN,advN_advN]
  refine Prod.ext rfl ?_
  show advN s _ = advN s _
  congr 1
  show (tk x0).length + (1 + (joinK ((x1 :: xs).map tk)).length) = (tk x0 ++ ((4,[44],0) :: joinK ((x1 :: xs).map tk))).length
  simp only [List.length_append,List.length_cons];omega
theorem list_back {α β:Type} {f:α → Ps → α × Ps} {tk:β → List Tk} {put:α → β → α} {stop:List Tk → Prop} {item:β → Prop}
 (hf:∀ x a s r,item x → At s (tk x ++ r) → stop r → f a s = (put a x,advN s (tk x).length)) (hc:∀ r,stop ((4,[44],0) :: r)) {rest:List Tk} (hr:stop rest) (hn:isK rest [44] = false)
 {xs:List β} (h0:xs ≠ []) (a:α) {s:Ps} (hi:∀ x ∈ xs,item x) (h:At s (joinK (xs.map tk) ++ rest)):listP f a s = (xs.foldl put a,advN s (joinK (xs.map tk)).length):=by
 cases xs with
 | nil => exact absurd rfl h0
 | cons x0 xs => exact list_loop_back hf hc hr hn xs x0 _ a s hi h (by omega)
theorem foldl_snoc {α β:Type} (g:α → β):∀ (l:List α) (acc:List β),l.foldl (fun a x => a ++ [g x]) acc = acc ++ l.map g
 | [],acc => by simp
 | x :: r,acc => by rw [List.foldl_cons,foldl_snoc g r,List.map_cons,List.append_assoc];rfl
theorem snoc_fold {β:Type} (l:List β):l.foldl (fun a x => a ++ [x]) [] = l:=by
 have:=foldl_snoc (id:β → β) l []
 simpa using this
def stopAll:List Tk → Prop:=fun _ => True
theorem names_back {s:Ps} {ns:List Str} {rest:List Tk} (h0:ns ≠ []) (a:At s (joinK (ns.map fun n => [(1,n,0)]) ++ rest)) (hn:isK rest [44] = false):namesP s = (ns,advN s (joinK (ns.map fun n => [((1:Int),n,(0:Int))])).length):=by
 unfold namesP
 rw [list_back (f:=fun a s => (a ++ [(nameP s).1],(nameP s).2)) (tk:=fun n => [(1,n,0)]) (put:=fun a n => a ++ [n]) (stop:=stopAll) (item:=fun _ => True) (fun x a s r _ h _ => by
  show (a ++ [(nameP s).1],(nameP s).2) = _
  rw [(name_at h).1];rfl) (fun _ => trivial) trivial hn h0 [] (fun _ _ => trivial) a,snoc_fold]
theorem pairs_back {s:Ps} {on:List (Str × Str)} {rest:List Tk} (h0:on ≠ []) (a:At s (joinK (on.map pairK) ++ rest)) (hn:isK rest [44] = false):listP pairItem [] s = (on,advN s (joinK (on.map pairK)).length):=by
 rw [list_back (f:=pairItem) (tk:=pairK) (put:=fun a n => a ++ [n]) (stop:=stopAll) (item:=fun _ => True) (fun x a s r _ h _ => by
  obtain ⟨e1,h1⟩:=name_at (rest:=(4,[61],0) :: (1,x.2,0) :: r) h
  obtain ⟨e2,h2⟩:=want_at (.inr rfl) h1
  obtain ⟨e3,h3⟩:=name_at h2
  unfold pairItem
  rw [e1]
  simp only
  rw [e2,e3];rfl) (fun _ => trivial) trivial hn h0 [] (fun _ _ => trivial) a,snoc_fold]
theorem orders_back {s:Ps} {os:List (Str × Bool)} {rest:List Tk} (h0:os ≠ []) (a:At s (joinK (os.map ordK) ++ rest)) (hn:isK rest [44] = false) (hd:isK rest sDown = false):listP orderItem [] s = (os,advN s (joinK (os.map ordK)).length):=by
 rw [list_back (f:=orderItem) (tk:=ordK) (put:=fun a n => a ++ [n]) (stop:=fun r => isK r sDown = false) (item:=fun _ => True) (fun x a s r _ h hs => by
  obtain ⟨n,b⟩:=x
  cases b with
  | false =>
   obtain ⟨e1,h1⟩:=name_at (rest:=r) h
   unfold orderItem maybeP
   rw [e1]
   simp only
   rw [h1.is,hs];rfl
  | true =>
   obtain ⟨e1,h1⟩:=name_at (rest:=(1,sDown,0) :: r) h
   unfold orderItem maybeP
   rw [e1]
   simp only
   rw [is_at (.inl rfl) h1];rfl) (fun r => by rw [isK_hd];decide) hd hn h0 [] (fun _ _ => trivial) a,snoc_fold]
theorem agg_back {a:List (Str × Str × Str)} {s:Ps} {x:Str × Str × Str} {r:List Tk} (hw:x.1 ∈ aggWords) (hc:x.2.1 = [] ∨ WordOk x.2.1) (h:At s (aggK x ++ r)):aggItem a s = (a ++ [x],advN s (aggK x).length):=by
 obtain ⟨op,c,n⟩:=x
 obtain ⟨j,j1,j2⟩:=which_mem hw
 obtain ⟨e1,h1⟩:=one_at (ws:=aggWords) (.inl rfl) (rest:=(4,[40],0) :: ((colK c ++ [(4,[41],0),(1,sAs,0),(1,n,0)]) ++ r)) h j1
 obtain ⟨e2,h2⟩:=want_at (.inr rfl) h1
 have e0:aggOp (1 + j) = op:=by
  unfold aggOp
  rw [if_neg (by omega),show 1 + j - 1 = j by omega];exact j2
 have key:∀ s2:Ps,At s2 ((colK c ++ [(4,[41],0),(1,sAs,0),(1,n,0)]) ++ r) → aggCol s2 = (c,advN s2 (colK c).length) ∧ At (advN s2 (colK c).length) ((4,[41],0) :: (1,sAs,0) :: (1,n,0) :: r):=fun s2 h2 => by
  unfold aggCol colK at *
  by_cases hz:c = []
  ·rw [if_pos hz] at h2 ⊢
   have h3:At s2 ((4,[41],0) :: (1,sAs,0) :: (1,n,0) :: r):=h2
   rw [if_pos (by rw [is_at (.inr rfl) h3];decide)]
   exact ⟨by rw [hz];rfl,h3⟩
  ·rw [if_neg hz] at h2 ⊢
   have h3:At s2 ((1,c,0) :: (4,[41],0) :: (1,sAs,0) :: (1,n,0) :: r):=h2
   have hcw:c ≠ [41]:=by
    rintro rfl
    rcases hc with hc | hc
    ·exact hz hc
    ·rcases hc with ⟨_,_,⟨a,l,e,hl⟩,_⟩ | ⟨h1,_⟩ | ⟨h1,_⟩ | ⟨h1,_⟩
     ·cases e;revert hl;decide
     ·exact absurd h1 (by show ¬ (1:Int) = 2;decide)
     ·exact absurd h1 (by show ¬ (1:Int) = 3;decide)
     ·exact absurd h1 (by show ¬ (1:Int) = 4;decide)
   rw [if_neg (by rw [is_at (.inl rfl) h3,decide_eq_false hcw];decide)]
   obtain ⟨e3,h4⟩:=name_at h3
   exact ⟨e3,h4⟩
 obtain ⟨e3,h3⟩:=key _ h2
 obtain ⟨e4,h4⟩:=want_at (.inr rfl) h3
 obtain ⟨e5,h5⟩:=want_at (.inl rfl) h4
 obtain ⟨e6,h6⟩:=name_at h5
 unfold aggItem
 rw [e1]
 simp only
 rw [e2,e3]
 simp only
 rw [e4,e5,e6,e0]
 refine Prod.ext rfl ?_
 show advP (advP (advP (advN (advP (advP s)) (colK c).length))) = advN s (aggK (op,c,n)).length
 rw [advN_one,advN_one,advN_one,advN_one,advN_one,advN_advN,advN_advN,advN_advN,advN_advN,advN_advN]
 congr 1
 unfold aggK
 simp only [List.length_cons,List.length_append,List.length_nil];omega
theorem aggs_back {s:Ps} {gs:List (Str × Str × Str)} {rest:List Tk} (h0:gs ≠ []) (hg:∀ g ∈ gs,g.1 ∈ aggWords ∧ (g.2.1 = [] ∨ WordOk g.2.1)) (a:At s (joinK (gs.map aggK) ++ rest)) (hn:isK rest [44] = false):listP aggItem [] s = (gs,advN s (joinK (gs.map aggK)).length):=by
 rw [list_back (f:=aggItem) (tk:=aggK) (put:=fun a n => a ++ [n]) (stop:=stopAll) (item:=fun g => g.1 ∈ aggWords ∧ (g.2.1 = [] ∨ WordOk g.2.1)) (fun x a s r hx h _ => agg_back hx.1 hx.2 h) (fun _ => trivial) trivial hn h0 [] hg a,snoc_fold]
theorem kept_map:∀ (xs:List Ex) (ns:List Str),xs.length = ns.length → keptK xs ns = (xs.zip ns).map fun p => keepK p.1 p.2
 | [],[],_ => rfl
 | x :: xs,n :: ns,h => by
  show keepK x n :: keptK xs ns = keepK x n :: (xs.zip ns).map _
  rw [kept_map xs ns (by simpa using h)]
theorem keep_fold:∀ (l:List (Ex × Str)) (a:List Ex × List Str),l.foldl (fun a p => (a.1 ++ [p.1],a.2 ++ [p.2])) a = (a.1 ++ l.map (·.1),a.2 ++ l.map (·.2))
 | [],a => by simp
 | p :: l,a => by rw [List.foldl_cons,keep_fold l];simp
theorem keep_back {s:Ps} {xs:List Ex} {ns:List Str} {rest:List Tk} (h0:xs ≠ []) (hl:xs.length = ns.length) (hx:∀ x ∈ xs,ExOk x) (a:At s (joinK (keptK xs ns) ++ rest)) (hn:isK rest [44] = false):listP keepItem ([],[]) s = ((xs,ns),advN s (joinK (keptK xs ns)).length):=by
 rw [kept_map xs ns hl] at a ⊢
 have hz:xs.zip ns ≠ []:=by
  cases xs with
  | nil => exact absurd rfl h0
  | cons x xs => cases ns with
   | nil => simp at hl
   | cons n ns => simp
 rw [list_back (f:=keepItem) (tk:=fun p => keepK p.1 p.2) (put:=fun a p => (a.1 ++ [p.1],a.2 ++ [p.2])) (stop:=stopAll) (item:=fun p => ExOk p.1) (fun x a s r hx h _ => by
  obtain ⟨x,n⟩:=x
  change At s ((tkE x ++ [(1,sAs,0),(1,n,0)]) ++ r) at h
  rw [List.append_assoc] at h
  have e1:=whole_back hx.1 hx.2 h (fun o ho => by
   have ho':decide (((1:Int) = 1 ∨ (1:Int) = 4) ∧ sAs = o) = true:=ho
   rw [decide_eq_true_eq] at ho'
   obtain rfl:=ho'.2
   exact ⟨by decide,by decide⟩)
  have h1:=h.app
  obtain ⟨e2,h2⟩:=want_at (.inl rfl) (rest:=(1,n,0) :: r) h1
  obtain ⟨e3,h3⟩:=name_at h2
  unfold keepItem
  rw [e1]
  simp only
  rw [e2,e3]
  refine Prod.ext rfl ?_
  show advP (advP (advN s (tkE x).length)) = advN s (tkE x ++ [_,_]).length
  rw [advN_one,advN_one,advN_advN,advN_advN]
  congr 1
  simp) (fun _ => trivial) trivial hn hz ([],[]) (fun p hp => hx _ (List.of_mem_zip hp).1) a,keep_fold]
 have e1:(xs.zip ns).map (·.1) = xs:=List.map_fst_zip (by omega)
 have e2:(xs.zip ns).map (·.2) = ns:=List.map_snd_zip (by omega)
 simp only [e1,e2,List.nil_append]
def qS:List Str:=[[124],[41],[59]]
def qE:List Str:=[[41],[59]]
theorem qE_qS {ts:List Tk} (h:Sg qE ts):Sg qS ts:=h.mono (by decide)
theorem qS_stop {ts:List Tk} (h:Sg qS ts):stopK 1 ts:=h.stop (by decide)
theorem qS_comma {ts:List Tk} (h:Sg qS ts):isK ts [44] = false:=h.no (by decide)
def Res (ok:Prop) (f:Pl × Ps) (p:Pl) (s:Ps) (m:Nat):Prop:=(ok → f = (p,advN s m)) ∧ (¬ ok → f.2.e = 52)
theorem Res.yes {ok:Prop} {f:Pl × Ps} {p:Pl} {s:Ps} {m:Nat} (h:f = (p,advN s m)) (hk:ok):Res ok f p s m:=⟨fun _ => h,fun hn => absurd hk hn⟩
def QBack (b:Pl):Prop:=∀ (n:Nat) (s:Ps) (rest:List Tk),At s (tkQ b ++ rest) → Sg qE rest → Res (deepQ b ≤ n) (queryP (dparN n) s) b s (tkQ b).length
theorem part_back {b:Pl} (ob:OkQ b) (hb:QBack b) (n:Nat) {s:Ps} {rest:List Tk} (a:At s (partK (b,tkQ b) ++ rest)):Res (partN (b,deepQ b) ≤ n) (partP (dparN n) s) b s (partK (b,tkQ b)).length:=by
 unfold partK partN at *
 simp only at a ⊢
 by_cases hk:b.k = 1
 ·obtain ⟨m,hm,rfl⟩:=ob.scan_of hk
  rw [if_pos hk] at a ⊢
  rw [if_pos hk]
  refine Res.yes ?_ (Nat.zero_le _)
  obtain ⟨e1,h1⟩:=name_at (n:=m) (m:=0) (rest:=rest) a
  unfold partP
  rw [if_neg,e1]
  ·rfl
  ·rw [is_at (.inl rfl) (x:=m) (m:=0) (rest:=rest) a]
   rcases hm with ⟨_,_,⟨c,l,e,hl⟩,_⟩ | ⟨h1,_⟩ | ⟨h1,_⟩ | ⟨h1,_⟩
   ·rw [decide_eq_false];decide
    intro e'
    have e2:c :: l = [40]:=e.symm.trans e'
    cases e2;revert hl;decide
   ·exact absurd h1 (by show ¬ (1:Int) = 2;decide)
   ·exact absurd h1 (by show ¬ (1:Int) = 3;decide)
   ·exact absurd h1 (by show ¬ (1:Int) = 4;decide)
 ·rw [if_neg hk] at a ⊢
  rw [if_neg hk]
  change At s ((4,[40],0) :: ((tkQ b ++ [(4,[41],0)]) ++ rest)) at a
  rw [List.append_assoc] at a
  obtain ⟨e1,h1⟩:=want_at (.inr rfl) a
  unfold partP
  rw [if_pos (by rw [is_at (.inr rfl) a];decide)]
  cases n with
  | zero =>
   refine ⟨fun h => absurd h (by omega),fun _ => ?_⟩
   show (failP s 52).e = 52
   unfold failP
   rw [if_pos a.1]
  | succ n =>
   show Res _ (parenQ (queryP (dparN n)) s) _ _ _
   unfold parenQ
   rw [e1]
   obtain ⟨r1,r2⟩:=hb n _ _ h1 (Sg.cons (by decide) _)
   refine ⟨fun h => ?_,fun h => ?_⟩
   ·rw [r1 (by omega)]
    simp only
    obtain ⟨e2,h2⟩:=want_at (.inr rfl) (h1.app (b:=(4,[41],0) :: rest))
    rw [e2,advN_one,advN_one,advN_advN,advN_advN]
    congr 2
    simp only [List.length_cons,List.length_append,List.length_nil];omega
   ·have:=r2 (by omega)
    show (wantP [41] (queryP (dparN n) (advP s)).2).e = 52
    rw [(goes_want [41] _).er (by rw [this];decide)];exact this
theorem step_word {s:Ps} {w:Str} {j:Nat} {rest:List Tk} (dp:PQ) (over:Pl) (a:At s ((1,w,0) :: rest)) (hj:whichW w stepWords = some j):stepP dp over s = stepK dp over (1 + j) (advP s) ∧ At (advP s) rest:=by
 obtain ⟨e1,h1⟩:=one_at (ws:=stepWords) (.inl rfl) a hj
 unfold stepP
 rw [e1]
 exact ⟨rfl,h1⟩
theorem adv_len (s:Ps) (m:Nat) (t:Tk) (l:List Tk) (h:m = l.length):advN (advP s) m = advN s (t :: l).length:=by
 rw [advN_one,advN_advN,h,List.length_cons,Nat.add_comm]
theorem where_back {over:Pl} {x:Ex} (dp:PQ) (hx:ExOk x) {s:Ps} {rest:List Tk} (a:At s (((1,sWhere,0) :: tkE x) ++ rest)) (hs:Sg qS rest) :
 stepP dp over s = (.mk 2 [] [over] x [] [] [] [] [] 0,advN s ((1,sWhere,0) :: tkE x).length):=by
 obtain ⟨e1,h1⟩:=step_word (j:=0) dp over (rest:=tkE x ++ rest) a (by decide)
 rw [e1]
 show (Pl.mk 2 [] [over] (wholeP (advP s)).1 [] [] [] [] [] 0,(wholeP (advP s)).2) = _
 rw [whole_back hx.1 hx.2 h1 (qS_stop hs)]
 rw [adv_len s _ (1,sWhere,0) (tkE x) rfl]
theorem keeps_back {over:Pl} {xs:List Ex} {ns:List Str} (dp:PQ) (h0:xs ≠ []) (hl:xs.length = ns.length) (hx:∀ x ∈ xs,ExOk x) {s:Ps} {rest:List Tk} (a:At s (((1,sKeep,0) :: joinK (keptK xs ns)) ++ rest)) (hs:Sg qS rest) :
 stepP dp over s = (.mk 3 [] [over] zEx ns xs [] [] [] 0,advN s ((1,sKeep,0) :: joinK (keptK xs ns)).length):=by
 obtain ⟨e1,h1⟩:=step_word (j:=1) dp over (rest:=joinK (keptK xs ns) ++ rest) a (by decide)
 rw [e1]
 show (Pl.mk 3 [] [over] zEx (listP keepItem ([],[]) (advP s)).1.2 (listP keepItem ([],[]) (advP s)).1.1 [] [] [] 0,(listP keepItem ([],[]) (advP s)).2) = _
 rw [keep_back h0 hl hx h1 (qS_comma hs)]
 rw [adv_len s _ (1,sKeep,0) (joinK (keptK xs ns)) rfl]
theorem join_back {b:Pl} {on:List (Str × Str)} (ob:OkQ b) (hb:QBack b) (n:Nat) (h0:on ≠ []) {s:Ps} {rest:List Tk} (a:At s ((partK (b,tkQ b) ++ (1,sOn,0) :: joinK (on.map pairK)) ++ rest)) (hs:Sg qS rest) :
 (partN (b,deepQ b) ≤ n → joinP (dparN n) s = ((b,on),advN s (partK (b,tkQ b) ++ (1,sOn,0) :: joinK (on.map pairK)).length)) ∧ (¬ partN (b,deepQ b) ≤ n → (joinP (dparN n) s).2.e = 52):=by
 rw [List.append_assoc] at a
 obtain ⟨r1,r2⟩:=part_back ob hb n a
 have h1:=a.app
 obtain ⟨e2,h2⟩:=want_at (.inl rfl) (rest:=joinK (on.map pairK) ++ rest) h1
 refine ⟨fun h => ?_,fun h => ?_⟩
 ·unfold joinP
  rw [r1 h]
  simp only
  rw [e2,pairs_back h0 h2 (qS_comma hs)]
  refine Prod.ext rfl ?_
  show advN (advP (advN s (partK (b,tkQ b)).length)) _ = _
  rw [advN_one,advN_advN,advN_advN]
  congr 1
  simp only [List.length_cons,List.length_append];omega
 ·have:=r2 h
  show (listP pairItem [] (wantP sOn (partP (dparN n) s).2)).2.e = 52
  rw [((goes_want sOn (partP (dparN n) s).2).trans (goes_list goes_pairItem [] _)).er (by rw [this];decide)];exact this
theorem joins_back {over b:Pl} {on:List (Str × Str)} {k:Int} {w:Str} (hk:(k = 4 ∧ w = sJoin) ∨ (k = 5 ∧ w = sLeft)) (ob:OkQ b) (hb:QBack b) (n:Nat) (h0:on ≠ []) {s:Ps} {rest:List Tk} (a:At s (((1,w,0) :: (partK (b,tkQ b) ++ (1,sOn,0) :: joinK (on.map pairK))) ++ rest)) (hs:Sg qS rest) :
 Res (partN (b,deepQ b) ≤ n) (stepP (dparN n) over s) (.mk k [] [over,b] zEx [] [] on [] [] 0) s ((1,w,0) :: (partK (b,tkQ b) ++ (1,sOn,0) :: joinK (on.map pairK))).length:=by
 rcases hk with ⟨rfl,rfl⟩ | ⟨rfl,rfl⟩
 ·obtain ⟨e1,h1⟩:=step_word (j:=2) (dparN n) over (rest:=(partK (b,tkQ b) ++ (1,sOn,0) :: joinK (on.map pairK)) ++ rest) a (by decide)
  rw [e1]
  obtain ⟨r1,r2⟩:=join_back ob hb n h0 h1 hs
  refine ⟨fun h => ?_,fun h => r2 h⟩
  show (Pl.mk 4 [] [over,(joinP (dparN n) (advP s)).1.1] zEx [] [] (joinP (dparN n) (advP s)).1.2 [] [] 0,(joinP (dparN n) (advP s)).2) = _
  rw [r1 h,adv_len s _ (1,sJoin,0) _ rfl]
 ·obtain ⟨e1,h1⟩:=step_word (j:=3) (dparN n) over (rest:=(partK (b,tkQ b) ++ (1,sOn,0) :: joinK (on.map pairK)) ++ rest) a (by decide)
  rw [e1]
  obtain ⟨r1,r2⟩:=join_back ob hb n h0 h1 hs
  refine ⟨fun h => ?_,fun h => r2 h⟩
  show (Pl.mk 5 [] [over,(joinP (dparN n) (advP s)).1.1] zEx [] [] (joinP (dparN n) (advP s)).1.2 [] [] 0,(joinP (dparN n) (advP s)).2) = _
  rw [r1 h,adv_len s _ (1,sLeft,0) _ rfl]
theorem union_back {over b:Pl} (ob:OkQ b) (hb:QBack b) (n:Nat) {s:Ps} {rest:List Tk} (a:At s (((1,sUnion,0) :: partK (b,tkQ b)) ++ rest)) :
 Res (partN (b,deepQ b) ≤ n) (stepP (dparN n) over s) (.mk 7 [] [over,b] zEx [] [] [] [] [] 0) s ((1,sUnion,0) :: partK (b,tkQ b)).length:=by
 obtain ⟨e1,h1⟩:=step_word (j:=5) (dparN n) over (rest:=partK (b,tkQ b) ++ rest) a (by decide)
 rw [e1]
 obtain ⟨r1,r2⟩:=part_back ob hb n h1
 refine ⟨fun h => ?_,fun h => r2 h⟩
 show (Pl.mk 7 [] [over,(partP (dparN n) (advP s)).1] zEx [] [] [] [] [] 0,(partP (dparN n) (advP s)).2) = _
 rw [r1 h,adv_len s _ (1,sUnion,0) _ rfl]
theorem dist_back {over:Pl} (dp:PQ) {s:Ps} {rest:List Tk} (a:At s ([(1,sDistinct,0)] ++ rest)):stepP dp over s = (.mk 8 [] [over] zEx [] [] [] [] [] 0,advN s 1):=by
 obtain ⟨e1,h1⟩:=step_word (j:=6) dp over (rest:=rest) a (by decide)
 rw [e1];rfl
theorem isK_words {n x:Str} (h:WordOk n) (hx:∀ c l,x = c :: l → letB c = false) (m:Int) (r:List Tk):isK ((1,n,m) :: r) x = false:=by
 rw [isK_hd,decide_eq_false]
 rintro ⟨_,rfl⟩
 rcases h with ⟨_,_,⟨c,l,e,hl⟩,_⟩ | ⟨h1,_⟩ | ⟨h1,_⟩ | ⟨h1,_⟩
 ·have:=hx c l e;rw [hl] at this;cases this
 ·exact absurd h1 (by show ¬ (1:Int) = 2;decide)
 ·exact absurd h1 (by show ¬ (1:Int) = 3;decide)
 ·exact absurd h1 (by show ¬ (1:Int) = 4;decide)
theorem joinK_head {l:List Tk} {h:Tk} {r:List Tk}:∀ (ls:List (List Tk)),l = h :: r → ∃ r',joinK (l :: ls) = h :: r'
 | [],e => ⟨r,e⟩
 | a :: ls,e => ⟨r ++ ((4,[44],0) :: joinK (a :: ls)),by rw [show joinK (l :: a :: ls) = l ++ ((4,[44],0) :: joinK (a :: ls)) from rfl,e];rfl⟩
theorem group_back {over:Pl} {ns:List Str} {gs:List (Str × Str × Str)} (dp:PQ) (hn:∀ n ∈ ns,WordOk n) (hg:∀ g ∈ gs,g.1 ∈ aggWords ∧ (g.2.1 = [] ∨ WordOk g.2.1)) {s:Ps} {rest:List Tk}
 (a:At s (((1,sGroup,0) :: (joinK (ns.map fun n => [(1,n,0)]) ++ (4,[58],0) :: joinK (gs.map aggK))) ++ rest)) (hs:Sg qS rest) :
 stepP dp over s = (.mk 6 [] [over] zEx ns [] [] gs [] 0,advN s ((1,sGroup,0) :: (joinK (ns.map fun n => [((1:Int),n,(0:Int))]) ++ (4,[58],0) :: joinK (gs.map aggK))).length):=by
 obtain ⟨e1,h1⟩:=step_word (j:=4) dp over (rest:=(joinK (ns.map fun n => [(1,n,0)]) ++ (4,[58],0) :: joinK (gs.map aggK)) ++ rest) a (by decide)
 rw [e1]
 show (Pl.mk 6 [] [over] zEx (groupP (advP s)).1.1 [] [] (groupP (advP s)).1.2 [] 0,(groupP (advP s)).2) = _
 have key:groupP (advP s) = ((ns,gs),advN (advP s) (joinK (ns.map fun n => [((1:Int),n,(0:Int))]) ++ (4,[58],0) :: joinK (gs.map aggK)).length):=by
  generalize advP s = s1 at h1 ⊢
  rw [List.append_assoc] at h1
  have e2:groupNames s1 = (ns,advN s1 (joinK (ns.map fun n => [((1:Int),n,(0:Int))])).length):=by
   unfold groupNames
   cases ns with
   | nil =>
    have h2:At s1 ((4,[58],0) :: (joinK (gs.map aggK) ++ rest)):=h1
    rw [if_pos (by rw [is_at (.inr rfl) h2];decide)];rfl
   | cons n0 ns =>
    obtain ⟨r',hr'⟩:=joinK_head (l:=[((1:Int),n0,(0:Int))]) (h:=(1,n0,0)) (r:=[]) (ns.map fun n => [((1:Int),n,(0:Int))]) rfl
    rw [if_neg]
    ·exact names_back (List.cons_ne_nil _ _) h1 (by rw [List.cons_append,isK_hd];decide)
    ·rw [h1.is,List.map_cons,hr',List.cons_append,isK_words (hn n0 (by simp)) (fun c l e => by cases e;decide)];decide
  obtain ⟨e3,h3⟩:=want_at (.inr rfl) (rest:=joinK (gs.map aggK) ++ rest) h1.app
  have e4:groupAggs (advP (advN s1 (joinK (ns.map fun n => [((1:Int),n,(0:Int))])).length)) = (gs,advN (advP (advN s1 (joinK (ns.map fun n => [((1:Int),n,(0:Int))])).length)) (joinK (gs.map aggK)).length):=by
   generalize advP (advN s1 (joinK (ns.map fun n => [((1:Int),n,(0:Int))])).length) = s2 at h3 ⊢
   unfold groupAggs
   cases gs with
   | nil =>
    have h4:At s2 rest:=h3
    rw [if_neg (hs.kind h4)];rfl
   | cons g0 gs =>
    obtain ⟨r',hr'⟩:=joinK_head (l:=aggK g0) (h:=(1,g0.1,0)) (r:=(4,[40],0) :: (colK g0.2.1 ++ [(4,[41],0),(1,sAs,0),(1,g0.2.2,0)])) (gs.map aggK) rfl
    have hk:(peekP s2).k = 1:=by
     have h4:=h3
     rw [List.map_cons,hr',List.cons_append] at h4
     exact congrArg (·.1) h4.peek.1
    rw [if_pos hk]
    exact aggs_back (List.cons_ne_nil _ _) hg h3 (qS_comma hs)
  unfold groupP
  rw [e2]
  simp only
  rw [e3,e4]
  refine Prod.ext rfl ?_
  show advN (advP (advN s1 _)) _ = advN s1 _
  rw [advN_one,advN_advN,advN_advN]
  congr 1
  simp only [List.length_cons,List.length_append];omega
 rw [key,adv_len s _ (1,sGroup,0) _ rfl]
theorem first_back {over:Pl} {n:Int} {os:List (Str × Bool)} (dp:PQ) {s:Ps} {rest:List Tk} (a:At s (((1,sFirst,0) :: (2,[],n) :: byK os) ++ rest)) (hs:Sg qS rest) :
 stepP dp over s = (.mk 9 [] [over] zEx [] [] [] [] os n,advN s ((1,sFirst,0) :: (2,[],n) :: byK os).length):=by
 obtain ⟨e1,h1⟩:=step_word (j:=7) dp over (rest:=(2,[],n) :: (byK os ++ rest)) a (by decide)
 rw [e1]
 show (Pl.mk 9 [] [over] zEx [] [] [] [] (firstP (advP s)).1.2 (firstP (advP s)).1.1,(firstP (advP s)).2) = _
 obtain ⟨e2,e3,h2⟩:=num_at h1
 have e4:firstBy (advP (advP s)) = (os,advN (advP (advP s)) (byK os).length):=by
  generalize advP (advP s) = s2 at h2 ⊢
  unfold firstBy
  unfold byK at h2 ⊢
  by_cases hz:os = []
  ·rw [if_pos hz] at h2 ⊢
   have h3:At s2 rest:=h2
   rw [if_neg (by rw [h3.is,hs.no (by decide)];decide),hz];rfl
  ·rw [if_neg hz] at h2 ⊢
   have h3:At s2 ((1,sBy,0) :: (joinK (os.map ordK) ++ rest)):=h2
   rw [if_pos (by rw [is_at (.inl rfl) h3];decide),orders_back hz h3.peek.2.1 (qS_comma hs) (hs.no (by decide))]
   rw [adv_len s2 _ (1,sBy,0) _ rfl]
 unfold firstP
 rw [e2,e3,e4]
 refine Prod.ext rfl ?_
 show advN (advP (advP s)) _ = _
 rw [advN_one,advN_one,advN_advN,advN_advN]
 congr 1
 simp only [List.length_cons];omega
def QRun (p:Pl):Prop:=∀ (n:Nat) (s:Ps) (rest:List Tk),At s (tkQ p ++ rest) → Sg qS rest →
 (deepQ p ≤ n → ∃ fuel,s.T.length < fuel + (s.i + (tkQ p).length) ∧ queryP (dparN n) s = queryLoop (dparN n) fuel p (advN s (tkQ p).length)) ∧ (¬ deepQ p ≤ n → (queryP (dparN n) s).2.e = 52)
theorem run_err {dp:PQ} {fuel:Nat} {q:Pl} {s:Ps} (h:s.e = 52):(queryLoop dp fuel q s).2.e = 52:=by
 rw [query_end]
 ·exact h
 ·cases hx:isP s [124] with
  | false => rfl
  | true => have:=(isP_some hx).1;rw [h] at this;cases this
theorem back_of_run {p:Pl} (h:QRun p):QBack p:=fun n s rest a st => by
 obtain ⟨h1,h2⟩:=h n s rest a (qE_qS st)
 refine ⟨fun hk => ?_,h2⟩
 obtain ⟨fuel,_,e⟩:=h1 hk
 rw [e,query_end]
 rw [a.app.is]
 exact st.no (by decide)
theorem run_step {over p:Pl} {ts:List Tk} {m:Nat} (ho:QRun over) (ht:tkQ p = tkQ over ++ ((4,[124],0) :: ts)) (hd:deepQ p = max (deepQ over) m)
 (hst:∀ (n:Nat) (s:Ps) (rest:List Tk),At s (ts ++ rest) → Sg qS rest → Res (m ≤ n) (stepP (dparN n) over s) p s ts.length):QRun p:=fun n s rest a st => by
 rw [ht,List.append_assoc,List.cons_append] at a
 obtain ⟨h1,h2⟩:=ho n s _ a (Sg.cons (by decide) _)
 have a2:=a.app
 obtain ⟨p1,p2,p3⟩:=a2.peek
 have p3':s.i + (tkQ over).length < s.T.length:=p3
 have hbar:isP (advN s (tkQ over).length) [124] = true:=by rw [is_at (.inr rfl) a2];decide
 have hiff:deepQ p ≤ n ↔ deepQ over ≤ n ∧ m ≤ n:=by rw [hd,Nat.max_le]
 by_cases hov:deepQ over ≤ n
 ·obtain ⟨fuel,hf,e⟩:=h1 hov
  obtain ⟨fu,rfl⟩:∃ fu,fuel = fu + 1:=⟨fuel - 1,by omega⟩
  obtain ⟨r1,r2⟩:=hst n _ rest p2 st
  refine ⟨fun hk => ⟨fu,?_,?_⟩,fun hk => ?_⟩
  ·rw [ht,List.length_append,List.length_cons];omega
  ·rw [e,query_more hbar,r1 (hiff.1 hk).2]
   simp only
   rw [advN_one,advN_advN,advN_advN,ht]
   congr 2
   rw [List.length_append,List.length_cons];omega
  ·rw [e,query_more hbar]
   exact run_err (r2 fun h => hk (hiff.2 ⟨hov,h⟩))
 ·refine ⟨fun hk => absurd (hiff.1 hk).1 hov,fun _ => h2 hov⟩
theorem run_all:∀ p,OkQ p → QRun p:=by
 intro p
 refine Pl.ind (P:=fun p => OkQ p → QRun p) ?_ p
 intro p ih ok
 cases ok with
 | scan m h =>
  intro n s rest a st
  rw [tkQ_scan] at a ⊢
  rw [deepQ_scan]
  refine ⟨fun _ => ⟨s.T.length + 1,by omega,?_⟩,fun h => absurd (Nat.zero_le _) h⟩
  obtain ⟨e1,h1⟩:=name_at (n:=m) (m:=0) (rest:=rest) a
  have e2:partP (dparN n) s = (scanL m,advP s):=by
   unfold partP
   rw [if_neg,e1]
   rw [a.is,show [((1:Int),m,(0:Int))] ++ rest = (1,m,0) :: rest from rfl,isK_words h (fun c l e => by cases e;decide)];decide
  unfold queryP
  rw [e2];rfl
 | where_ a x ha hx => exact run_step (m:=0) (ih a (by simp [Pl.xs]) ha) (tkQ_one _ _ _ _ _ _ _ _ _ (by decide)) (by rw [deepQ_one _ _ _ _ _ _ _ _ _ (by decide)];omega) fun n s rest h st => .yes (where_back _ hx h st) (Nat.zero_le _)
 | keep a ns xs ha hl h0 hx hn => exact run_step (m:=0) (ih a (by simp [Pl.xs]) ha) (tkQ_one _ _ _ _ _ _ _ _ _ (by decide)) (by rw [deepQ_one _ _ _ _ _ _ _ _ _ (by decide)];omega) fun n s rest h st => .yes (keeps_back _ h0 hl hx h st) (Nat.zero_le _)
 | join k a b on hk ha hb h0 ho =>
  have hb2:=back_of_run (ih b (by simp [Pl.xs]) hb)
  rcases hk with rfl | rfl
  ·exact run_step (ih a (by simp [Pl.xs]) ha) (tkQ_two _ _ _ _ _ _ _ _ _ _ (by decide)) (deepQ_two _ _ _ _ _ _ _ _ _ _ (by decide)) fun n s rest h st => joins_back (.inl ⟨rfl,rfl⟩) hb hb2 n h0 h st
  ·exact run_step (ih a (by simp [Pl.xs]) ha) (tkQ_two _ _ _ _ _ _ _ _ _ _ (by decide)) (deepQ_two _ _ _ _ _ _ _ _ _ _ (by decide)) fun n s rest h st => joins_back (.inr ⟨rfl,rfl⟩) hb hb2 n h0 h st
 | group a ns gs ha hn hg => exact run_step (m:=0) (ih a (by simp [Pl.xs]) ha) (tkQ_one _ _ _ _ _ _ _ _ _ (by decide)) (by rw [deepQ_one _ _ _ _ _ _ _ _ _ (by decide)];omega) fun n s rest h st => .yes (group_back _ hn (fun g hgm => ⟨(hg g hgm).1,(hg g hgm).2.1⟩) h st) (Nat.zero_le _)
 | union a b ha hb =>
  have hb2:=back_of_run (ih b (by simp [Pl.xs]) hb)
  exact run_step (ih a (by simp [Pl.xs]) ha) (tkQ_two _ _ _ _ _ _ _ _ _ _ (by decide)) (deepQ_two _ _ _ _ _ _ _ _ _ _ (by decide)) fun n s rest h st => union_back hb hb2 n h
 | dist a ha => exact run_step (m:=0) (ih a (by simp [Pl.xs]) ha) (tkQ_one _ _ _ _ _ _ _ _ _ (by decide)) (by rw [deepQ_one _ _ _ _ _ _ _ _ _ (by decide)];omega) fun n s rest h st => .yes (dist_back _ h) (Nat.zero_le _)
 | first a n os ha h0 h1 ho => exact run_step (m:=0) (ih a (by simp [Pl.xs]) ha) (tkQ_one _ _ _ _ _ _ _ _ _ (by decide)) (by rw [deepQ_one _ _ _ _ _ _ _ _ _ (by decide)];omega) fun n s rest h st => .yes (first_back _ h st) (Nat.zero_le _)
theorem top_back {p:Pl} (ok:OkQ p) {s:Ps} {rest:List Tk} (a:At s (tkQ p ++ rest)) (st:Sg qE rest):Res (deepQ p ≤ 31) (topQ s) p s (tkQ p).length:=back_of_run (run_all p ok) 31 s rest a st
end Go.Proofs.YtonkjhmkppeagaaGreatDoor.Pz
namespace Go.Proofs.YtonkjhmkppeagaaGreatDoor.Pz
open Go Go.RowKit Lx
def WrT (t:Str) (k:List Tk):Prop:=∀ r ts,RdT r ts → Cl r → RdT (t ++ r) (k ++ ts)
theorem WrT.ne {t:Str} {k:List Tk} (h:WrT t k) (hk:k ≠ []):t ≠ []:=by
 rintro rfl
 obtain ⟨ts,q,e1,e2⟩:=h [] [] RdT.nil Cl.nil 0
 rw [List.append_nil] at e1 e2
 rw [lex_nil] at e1
 cases e1
 exact hk e2.symm
theorem WrT.app {t u:Str} {k j:List Tk} (h:WrT t k) (g:WrT u j) (hc:∀ r,Cl (u ++ r)):WrT (t ++ u) (k ++ j):=fun r ts hr hcl => by
 rw [List.append_assoc,List.append_assoc]
 exact h _ _ (g r ts hr hcl) (hc r)
theorem WrT.empty:WrT [] []:=fun r ts hr _ => hr
theorem wr_ex {x:Ex} (h:OkE x):WrT (textE x) (tkE x):=wr_all x h
theorem wr_word {n:Str} (h:WordOk n):WrT n [(1,n,0)]:=fun r ts hr hc => RdT.word h (fun c hh => (hc c hh).1) hr
theorem wr_num {n:Int} (h0:0 ≤ n) (h1:n ≤ 9223372036854775807):WrT (Lib.itoa n) [(2,[],n)]:=fun r ts hr hc => RdT.num h0 h1 (fun c hh => dig_word (hc c hh).1) hr
def WrA (t:Str) (k:List Tk):Prop:=∀ r ts,RdT r ts → RdT (t ++ r) (k ++ ts)
theorem WrA.wt {t:Str} {k:List Tk} (h:WrA t k):WrT t k:=fun r ts hr _ => h r ts hr
theorem WrA.app {t u:Str} {k j:List Tk} (h:WrA t k) (g:WrT u j):WrT (t ++ u) (k ++ j):=fun r ts hr hcl => by
 rw [List.append_assoc,List.append_assoc]
 exact h _ _ (g r ts hr hcl)
theorem WrA.both {t u:Str} {k j:List Tk} (h:WrA t k) (g:WrA u j):WrA (t ++ u) (k ++ j):=fun r ts hr => by
 rw [List.append_assoc,List.append_assoc]
 exact h _ _ (g r ts hr)
theorem wr_sign {x:Str} (hx:x ∈ sgL) (h1:x ≠ [60]) (h2:x ≠ [62]):WrA x [(4,x,0)]:=fun r ts hr => RdT.sign hx h1 h2 hr
theorem wr_blank {t:Str} {k:List Tk} (h:WrT t k):WrT (32 :: t) k:=fun r ts hr hc => (h r ts hr hc).ws (by decide)
theorem cl_blank (l:Str):Cl (32 :: l):=cl_one (by decide) (by decide)
theorem words_nil {l:List (Str × List Tk)} (h:∀ p ∈ l,WrT p.1 p.2) (hf:(l.map (·.1)).filter (fun s => decide (s ≠ [])) = []):(l.map (·.2)).flatten = []:=by
 induction l with
 | nil => rfl
 | cons p l ih =>
  rw [List.map_cons,List.filter_cons] at hf
  by_cases hp:p.1 = []
  ·rw [if_neg (by rw [hp];decide)] at hf
   rw [List.map_cons,List.flatten_cons,ih (fun q hq => h q (by simp [hq])) hf,List.append_nil]
   apply Classical.byContradiction
   intro hk
   exact (h p (by simp)).ne hk hp
  ·rw [if_pos (by simpa using hp)] at hf
   cases hf
theorem wr_words:∀ (l:List (Str × List Tk)),(∀ p ∈ l,WrT p.1 p.2 ∧ (p.2 = [] → p.1 = [])) → WrT (wordsT (l.map (·.1))) (l.map (·.2)).flatten
 | [],h => WrT.empty
 | p :: l,h => by
  have ih:=wr_words l (fun q hq => h q (by simp [hq]))
  obtain ⟨h1,h2⟩:=h p (by simp)
  unfold wordsT at ih ⊢
  rw [List.map_cons,List.map_cons,List.filter_cons,List.flatten_cons]
  by_cases hp:p.1 = []
  ·rw [if_neg (by rw [hp];decide)]
   have:p.2 = []:=by
    apply Classical.byContradiction
    intro hk
    exact h1.ne hk hp
   rw [this]
   exact ih
  ·rw [if_pos (by simpa using hp)]
   cases hf:(l.map (·.1)).filter (fun s => decide (s ≠ [])) with
   | nil =>
    rw [words_nil (fun q hq => (h q (by simp [hq])).1) hf,List.append_nil]
    exact h1
   | cons a r =>
    rw [hf] at ih
    exact h1.app (u:=[32] ++ joinS [32] (a :: r)) (wr_blank ih) (fun r => cl_blank _)
theorem wr_join {α:Type} {tx:α → Str} {tk:α → List Tk}:∀ (l:List α),(∀ x ∈ l,WrT (tx x) (tk x)) → WrT (joinS [44,32] (l.map tx)) (joinK (l.map tk))
 | [],h => WrT.empty
 | [x],h => h x (by simp)
 | x :: y :: l,h => by
  have ih:=wr_join (y :: l) (fun z hz => h z (List.mem_cons_of_mem _ hz))
  refine (h x (by simp)).app (u:=[44,32] ++ joinS [44,32] ((y :: l).map tx)) (j:=(4,[44],0) :: joinK ((y :: l).map tk)) ?_ (fun r => cl_one (by decide) (by decide))
  exact (wr_sign (x:=[44]) (by decide) (by decide) (by decide)).app (wr_blank ih)
def WrQ (p:Pl):Prop:=WrT (textQ p) (tkQ p)
theorem tkE_ne {x:Ex} (h:OkE x):tkE x ≠ []:=by
 obtain ⟨k1,_⟩:=h.rank
 obtain ⟨a,t,e,_⟩:=tk_head x h 1
 rw [plK_at k1] at e
 rw [e];exact List.cons_ne_nil _ _
theorem wr_part {b:Pl} (ob:OkQ b) (h:WrQ b):WrT (partT (b,textQ b)) (partK (b,tkQ b)):=by
 unfold partT partK
 simp only
 by_cases hk:b.k = 1
 ·obtain ⟨m,hm,rfl⟩:=ob.scan_of hk
  rw [if_pos hk,if_pos hk]
  exact wr_word hm
 ·rw [if_neg hk,if_neg hk]
  refine (wr_sign (x:=[40]) (by decide) (by decide) (by decide)).app (u:=textQ b ++ [41]) (j:=tkQ b ++ [(4,[41],0)]) ?_
  exact h.app (wr_sign (x:=[41]) (by decide) (by decide) (by decide)).wt (fun r => cl_one (by decide) (by decide))
theorem partK_ne (b:Pl × List Tk):partK b ≠ []:=by unfold partK;split <;> exact List.cons_ne_nil _ _
theorem kw_where:WordOk sWhere:=.inl ⟨rfl,rfl,⟨119,[104,101,114,101],rfl,by decide⟩,by decide,by decide⟩
theorem kw_keep:WordOk sKeep:=.inl ⟨rfl,rfl,⟨107,[101,101,112],rfl,by decide⟩,by decide,by decide⟩
theorem kw_join:WordOk sJoin:=.inl ⟨rfl,rfl,⟨106,[111,105,110],rfl,by decide⟩,by decide,by decide⟩
theorem kw_left:WordOk sLeft:=.inl ⟨rfl,rfl,⟨108,[101,102,116],rfl,by decide⟩,by decide,by decide⟩
theorem kw_group:WordOk sGroup:=.inl ⟨rfl,rfl,⟨103,[114,111,117,112],rfl,by decide⟩,by decide,by decide⟩
theorem kw_union:WordOk sUnion:=.inl ⟨rfl,rfl,⟨117,[110,105,111,110],rfl,by decide⟩,by decide,by decide⟩
theorem kw_distinct:WordOk sDistinct:=.inl ⟨rfl,rfl,⟨100,[105,115,116,105,110,99,116],rfl,by decide⟩,by decide,by decide⟩
theorem kw_first:WordOk sFirst:=.inl ⟨rfl,rfl,⟨102,[105,114,115,116],rfl,by decide⟩,by decide,by decide⟩
theorem kw_as:WordOk sAs:=.inl ⟨rfl,rfl,⟨97,[115],rfl,by decide⟩,by decide,by decide⟩
theorem kw_on:WordOk sOn:=.inl ⟨rfl,rfl,⟨111,[110],rfl,by decide⟩,by decide,by decide⟩
theorem kw_by:WordOk sBy:=.inl ⟨rfl,rfl,⟨98,[121],rfl,by decide⟩,by decide,by decide⟩
theorem kw_down:WordOk sDown:=.inl ⟨rfl,rfl,⟨100,[111,119,110],rfl,by decide⟩,by decide,by decide⟩
theorem kw_agg:∀ w ∈ aggWords,WordOk w:=by
 intro w hw
 unfold aggWords at hw
 simp only [List.mem_cons,List.not_mem_nil,or_false] at hw
 rcases hw with rfl | rfl | rfl | rfl
 ·exact .inl ⟨rfl,rfl,⟨99,[111,117,110,116],rfl,by decide⟩,by decide,by decide⟩
 ·exact .inl ⟨rfl,rfl,⟨115,[117,109],rfl,by decide⟩,by decide,by decide⟩
 ·exact .inl ⟨rfl,rfl,⟨109,[105,110],rfl,by decide⟩,by decide,by decide⟩
 ·exact .inl ⟨rfl,rfl,⟨109,[97,120],rfl,by decide⟩,by decide,by decide⟩
theorem WordOk.ne {n:Str} (h:WordOk n):n ≠ []:=by
 rcases h with ⟨_,_,⟨a,l,e,_⟩,_⟩ | ⟨h1,_⟩ | ⟨h1,_⟩ | ⟨h1,_⟩
 ·have e':n = a :: l:=e
  rw [e'];exact List.cons_ne_nil _ _
 ·exact absurd h1 (by show ¬ (1:Int) = 2;decide)
 ·exact absurd h1 (by show ¬ (1:Int) = 3;decide)
 ·exact absurd h1 (by show ¬ (1:Int) = 4;decide)
theorem wr_sp {t u:Str} {k j:List Tk} (h:WrT t k) (g:WrT u j):WrT (t ++ (32 :: u)) (k ++ j):=h.app (wr_blank g) (fun r => cl_blank _)
theorem wr_pair {o:Str × Str} (h:WordOk o.1 ∧ WordOk o.2):WrT (pairT o) (pairK o) :=
 wr_sp (k:=[(1,o.1,0)]) (wr_word h.1) ((wr_sign (x:=[61]) (by decide) (by decide) (by decide)).app (wr_blank (wr_word h.2)))
theorem wr_agg {a:Str × Str × Str} (h:a.1 ∈ aggWords ∧ (a.2.1 = [] ∨ WordOk a.2.1) ∧ WordOk a.2.2):WrT (aggT a) (aggK a):=by
 have tail:WrT ([41] ++ (32 :: (sAs ++ (32 :: a.2.2)))) [(4,[41],0),(1,sAs,0),(1,a.2.2,0)] :=
  (wr_sign (x:=[41]) (by decide) (by decide) (by decide)).app (wr_blank (wr_sp (k:=[(1,sAs,0)]) (wr_word kw_as) (wr_word h.2.2)))
 have col:WrT (a.2.1 ++ ([41] ++ (32 :: (sAs ++ (32 :: a.2.2))))) (colK a.2.1 ++ [(4,[41],0),(1,sAs,0),(1,a.2.2,0)]):=by
  unfold colK
  by_cases hz:a.2.1 = []
  ·rw [if_pos hz,hz];exact tail
  ·rw [if_neg hz]
   rcases h.2.1 with h1 | h1
   ·exact absurd h1 hz
   ·exact (wr_word h1).app tail (fun r => cl_one (by decide) (by decide))
 exact (wr_word (kw_agg _ h.1)).app (u:=[40] ++ (a.2.1 ++ ([41] ++ (32 :: (sAs ++ (32 :: a.2.2)))))) ((wr_sign (x:=[40]) (by decide) (by decide) (by decide)).app col) (fun r => cl_one (by decide) (by decide))
theorem wr_ord {o:Str × Bool} (h:WordOk o.1):WrT (ordT o) (ordK o):=by
 unfold ordT ordK
 cases o.2 with
 | false => exact wr_word h
 | true => exact wr_sp (k:=[(1,o.1,0)]) (wr_word h) (wr_word kw_down)
theorem wr_keep {x:Ex} {n:Str} (hx:OkE x) (hn:WordOk n):WrT (keepT x n) (keepK x n) :=
 wr_sp (wr_ex hx) (wr_sp (k:=[(1,sAs,0)]) (wr_word kw_as) (wr_word hn))
theorem keptL_map:∀ (xs:List Ex) (ns:List Str),xs.length = ns.length → keptL xs ns = (xs.zip ns).map fun p => keepT p.1 p.2
 | [],[],_ => rfl
 | x :: xs,n :: ns,h => by
  show keepT x n :: keptL xs ns = keepT x n :: (xs.zip ns).map _
  rw [keptL_map xs ns (by simpa using h)]
theorem joinK_ne {α:Type} {tk:α → List Tk} {l:List α} (h0:l ≠ []) (h:∀ x ∈ l,tk x ≠ []):joinK (l.map tk) ≠ []:=by
 cases l with
 | nil => exact absurd rfl h0
 | cons x l =>
  obtain ⟨a,r,e⟩:=List.exists_cons_of_ne_nil (h x (by simp))
  obtain ⟨r',e'⟩:=joinK_head (l.map tk) e
  rw [List.map_cons,e'];exact List.cons_ne_nil _ _
theorem wr_step {over:Str} {ok:List Tk} (h:WrT over ok) (l:List (Str × List Tk)) (hl:∀ p ∈ l,WrT p.1 p.2 ∧ (p.2 = [] → p.1 = [])) (hne:(l.map (·.2)).flatten ≠ []) :
 WrT (over ++ ([32,124,32] ++ wordsT (l.map (·.1)))) (ok ++ ((4,[124],0) :: (l.map (·.2)).flatten)) :=
 wr_sp h ((wr_sign (x:=[124]) (by decide) (by decide) (by decide)).app (wr_blank (wr_words l hl)))
theorem two_ne {t:Str} {k:List Tk} (h:k ≠ []):k = [] → t = []:=fun e => absurd e h
theorem kwp {w:Str} (h:WordOk w):WrT w [((1:Int),w,(0:Int))] ∧ ([((1:Int),w,(0:Int))] = [] → w = []):=⟨wr_word h,two_ne (List.cons_ne_nil _ _)⟩
theorem wrQ_all:∀ p,OkQ p → WrQ p:=by
 intro p
 refine Pl.ind (P:=fun p => OkQ p → WrQ p) ?_ p
 intro p ih ok
 unfold WrQ
 cases ok with
 | scan n h => rw [textQ_scan,tkQ_scan];exact wr_word h
 | where_ a x ha hx =>
  rw [textQ_one _ _ _ _ _ _ _ _ _ (by decide),tkQ_one _ _ _ _ _ _ _ _ _ (by decide)]
  have:=wr_step (ih a (by simp [Pl.xs]) ha) [(sWhere,[(1,sWhere,0)]),(textE x,tkE x)] (by
   intro p hp
   simp only [List.mem_cons,List.not_mem_nil,or_false] at hp
   rcases hp with rfl | rfl
   ·exact kwp kw_where
   ·exact ⟨wr_ex hx.1,two_ne (tkE_ne hx.1)⟩) (by simp)
  simpa [stepT,stepTk,Pl.k,Pl.cond] using this
 | keep a ns xs ha hl h0 hx hn =>
  rw [textQ_one _ _ _ _ _ _ _ _ _ (by decide),tkQ_one _ _ _ _ _ _ _ _ _ (by decide)]
  have hz:xs.zip ns ≠ []:=by
   cases xs with
   | nil => exact absurd rfl h0
   | cons x xs => cases ns with
    | nil => simp at hl
    | cons n ns => simp
  have hm:∀ p ∈ xs.zip ns,WrT (keepT p.1 p.2) (keepK p.1 p.2):=fun p hp => wr_keep (hx _ (List.of_mem_zip hp).1).1 (hn _ (List.of_mem_zip hp).2)
  have:=wr_step (ih a (by simp [Pl.xs]) ha) [(sKeep,[(1,sKeep,0)]),(joinS [44,32] (keptL xs ns),joinK (keptK xs ns))] (by
   intro p hp
   simp only [List.mem_cons,List.not_mem_nil,or_false] at hp
   rcases hp with rfl | rfl
   ·exact kwp kw_keep
   ·simp only
    rw [keptL_map xs ns hl,kept_map xs ns hl]
    refine ⟨wr_join _ hm,two_ne (joinK_ne hz fun p hp => ?_)⟩
    unfold keepK;simp) (by simp)
  simpa [stepT,stepTk,Pl.k,Pl.exprs,Pl.names] using this
 | join k a b on hk ha hb h0 ho =>
  have key:∀ (w:Str),WordOk w → WrT (textQ a ++ ([32,124,32] ++ wordsT [w,partT (b,textQ b),sOn,joinS [44,32] (on.map pairT)])) (tkQ a ++ ((4,[124],0) :: (1,w,0) :: (partK (b,tkQ b) ++ (1,sOn,0) :: joinK (on.map pairK)))):=fun w hw => by
   have:=wr_step (ih a (by simp [Pl.xs]) ha) [(w,[(1,w,0)]),(partT (b,textQ b),partK (b,tkQ b)),(sOn,[(1,sOn,0)]),(joinS [44,32] (on.map pairT),joinK (on.map pairK))] (by
    intro p hp
    simp only [List.mem_cons,List.not_mem_nil,or_false] at hp
    rcases hp with rfl | rfl | rfl | rfl
    ·exact kwp hw
    ·exact ⟨wr_part hb (ih b (by simp [Pl.xs]) hb),two_ne (partK_ne _)⟩
    ·exact kwp kw_on
    ·exact ⟨wr_join _ fun o h => wr_pair (ho o h),two_ne (joinK_ne h0 fun o h => by unfold pairK;exact List.cons_ne_nil _ _)⟩) (by simp)
   simpa using this
  rcases hk with rfl | rfl
  ·rw [textQ_two _ _ _ _ _ _ _ _ _ _ (by decide),tkQ_two _ _ _ _ _ _ _ _ _ _ (by decide)]
   exact key sJoin kw_join
  ·rw [textQ_two _ _ _ _ _ _ _ _ _ _ (by decide),tkQ_two _ _ _ _ _ _ _ _ _ _ (by decide)]
   exact key sLeft kw_left
 | group a ns gs ha hn hg =>
  rw [textQ_one _ _ _ _ _ _ _ _ _ (by decide),tkQ_one _ _ _ _ _ _ _ _ _ (by decide)]
  have:=wr_step (ih a (by simp [Pl.xs]) ha) [(sGroup,[(1,sGroup,0)]),(joinS [44,32] (ns.map id),joinK (ns.map fun n => [(1,n,0)])),([58],[(4,[58],0)]),(joinS [44,32] (gs.map aggT),joinK (gs.map aggK))] (by
   intro p hp
   simp only [List.mem_cons,List.not_mem_nil,or_false] at hp
   rcases hp with rfl | rfl | rfl | rfl
   ·exact kwp kw_group
   ·refine ⟨wr_join (tx:=id) ns fun n h => wr_word (hn n h),fun e => ?_⟩
    cases ns with
    | nil => rfl
    | cons n ns => exact absurd e (joinK_ne (List.cons_ne_nil _ _) fun n h => List.cons_ne_nil _ _)
   ·exact ⟨(wr_sign (x:=[58]) (by decide) (by decide) (by decide)).wt,two_ne (List.cons_ne_nil _ _)⟩
   ·refine ⟨wr_join gs fun g h => wr_agg (hg g h),fun e => ?_⟩
    cases gs with
    | nil => rfl
    | cons n ns => exact absurd e (joinK_ne (List.cons_ne_nil _ _) fun n h => by unfold aggK;exact List.cons_ne_nil _ _)) (by simp)
  simpa [stepT,stepTk,Pl.k,Pl.aggs,Pl.names] using this
 | union a b ha hb =>
  rw [textQ_two _ _ _ _ _ _ _ _ _ _ (by decide),tkQ_two _ _ _ _ _ _ _ _ _ _ (by decide)]
  have:=wr_step (ih a (by simp [Pl.xs]) ha) [(sUnion,[(1,sUnion,0)]),(partT (b,textQ b),partK (b,tkQ b))] (by
   intro p hp
   simp only [List.mem_cons,List.not_mem_nil,or_false] at hp
   rcases hp with rfl | rfl
   ·exact kwp kw_union
   ·exact ⟨wr_part hb (ih b (by simp [Pl.xs]) hb),two_ne (partK_ne _)⟩) (by simp)
  simpa [stepT,stepTk,Pl.k] using this
 | dist a ha =>
  rw [textQ_one _ _ _ _ _ _ _ _ _ (by decide),tkQ_one _ _ _ _ _ _ _ _ _ (by decide)]
  exact wr_sp (ih a (by simp [Pl.xs]) ha) ((wr_sign (x:=[124]) (by decide) (by decide) (by decide)).app (wr_blank (wr_word kw_distinct)))
 | first a n os ha h0 h1 ho =>
  rw [textQ_one _ _ _ _ _ _ _ _ _ (by decide),tkQ_one _ _ _ _ _ _ _ _ _ (by decide)]
  by_cases hz:os = []
  ·subst hz
   have:=wr_step (ih a (by simp [Pl.xs]) ha) [(sFirst,[(1,sFirst,0)]),(Lib.itoa n,[(2,[],n)])] (by
    intro p hp
    simp only [List.mem_cons,List.not_mem_nil,or_false] at hp
    rcases hp with rfl | rfl
    ·exact kwp kw_first
    ·exact ⟨wr_num h0 h1,two_ne (List.cons_ne_nil _ _)⟩) (by simp)
   have e:wordsT [sFirst,Lib.itoa n,[],joinS [44,32] []] = wordsT [sFirst,Lib.itoa n]:=by
    unfold wordsT
    simp [joinS,List.filter]
   simpa [stepT,stepTk,byK,Pl.k,Pl.cnt,Pl.ord,e] using this
  ·have:=wr_step (ih a (by simp [Pl.xs]) ha) [(sFirst,[(1,sFirst,0)]),(Lib.itoa n,[(2,[],n)]),(sBy,[(1,sBy,0)]),(joinS [44,32] (os.map ordT),joinK (os.map ordK))] (by
    intro p hp
    simp only [List.mem_cons,List.not_mem_nil,or_false] at hp
    rcases hp with rfl | rfl | rfl | rfl
    ·exact kwp kw_first
    ·exact ⟨wr_num h0 h1,two_ne (List.cons_ne_nil _ _)⟩
    ·exact kwp kw_by
    ·exact ⟨wr_join os fun o h => wr_ord (ho o h),two_ne (joinK_ne hz fun o h => by unfold ordK;exact List.cons_ne_nil _ _)⟩) (by simp)
   simpa [stepT,stepTk,byK,Pl.k,Pl.cnt,Pl.ord,hz] using this
end Go.Proofs.YtonkjhmkppeagaaGreatDoor.Pz
namespace Go.Proofs.YtonkjhmkppeagaaGreatDoor.Pz
open Go Go.RowKit Lx
theorem wt_name {s:Ps} (a:AllOk s) (h:(nameP s).2.e = 0):WordOk (nameP s).1 ∧ (nameP s).1.length + 1 + Wt (nameP s).2 = Wt s:=by
 unfold nameP tokenP at h ⊢
 by_cases hk:(peekP s).k = 1
 ·rw [if_pos hk] at h ⊢
  have ok:=peek_ok a (by rw [hk];decide)
  refine ⟨tok_word ok hk,?_⟩
  have:=wt_adv (s:=s) (by rw [hk];decide)
  rw [sh_word hk] at this
  simp only;omega
 ·rw [if_neg hk] at h
  exact absurd h (fail_ok (by decide))
theorem wt_num {s:Ps} (a:AllOk s) (h:(tokenP 2 s).2.e = 0):0 ≤ (tokenP 2 s).1.n ∧ (tokenP 2 s).1.n ≤ 9223372036854775807 ∧ (Lib.itoa (tokenP 2 s).1.n).length + 1 + Wt (tokenP 2 s).2 = Wt s:=by
 unfold tokenP at h ⊢
 by_cases hk:(peekP s).k = 2
 ·rw [if_pos hk] at h ⊢
  have ok:=peek_ok a (by rw [hk];decide)
  obtain ⟨_,h1,h2⟩:=tok_num ok hk
  refine ⟨h1,h2,?_⟩
  have:=wt_adv (s:=s) (by rw [hk];decide)
  rw [sh_num hk] at this
  simp only;omega
 ·rw [if_neg hk] at h
  exact absurd h (fail_ok (by decide))
theorem wt_want {s:Ps} {x:Str} (h:(wantP x s).e = 0):x.length + 1 + Wt (wantP x s) = Wt s:=by
 obtain ⟨h1,h2⟩:=want_ok h
 rw [h2]
 exact (wt_is h1).symm
theorem one_read {ws:List Str} {s:Ps} (h:(oneP ws s).2.e = 0):∃ k,k < ws.length ∧ (oneP ws s).1 = 1 + k ∧ (ws.getD k []).length + 1 + Wt (oneP ws s).2 = Wt s:=by
 unfold oneP at h ⊢
 rw [oneFrom_is] at h ⊢
 cases hf:firstOp ws s with
 | none => rw [hf] at h;exact absurd h (fail_ok (by decide))
 | some k =>
  obtain ⟨o,h1,h2⟩:=firstOp_is hf
  refine ⟨k,(firstOp_some hf).1,rfl,?_⟩
  rw [List.getD_eq_getElem?_getD,h1]
  exact (wt_is h2).symm
theorem loop_read {α β:Type} {f:α → Ps → α × Ps} (g:∀ a s,Goes s (f a s).2) (put:α → β → α) (tx:β → Str) (ok:β → Prop)
 (hf:∀ a s,AllOk s → (f a s).2.e = 0 → ∃ x,(f a s).1 = put a x ∧ ok x ∧ (tx x).length + 2 + 2 * Wt (f a s).2 ≤ 2 * Wt s) :
 ∀ (fuel:Nat) (a:α) (s:Ps),AllOk s → (listLoop f fuel a s).2.e = 0 → ∃ l:List β,(listLoop f fuel a s).1 = l.foldl put a ∧ (∀ x ∈ l,ok x) ∧ (l.map fun x => (tx x).length + 2).sum + 2 * Wt (listLoop f fuel a s).2 ≤ 2 * Wt s
 | 0,a,s,al,h => ⟨[],rfl,fun x hx => by simp at hx,by simp [listLoop]⟩
 | fuel + 1,a,s,al,h => by
  by_cases hc:isP s [44] = true
  ·rw [list_more hc] at h ⊢
   have h2:=(goes_listLoop g fuel _ _).back h
   obtain ⟨x,x1,x2,x3⟩:=hf a (advP s) ((goes_adv_is hc).all al) h2
   obtain ⟨l,l1,l2,l3⟩:=loop_read g put tx ok hf fuel _ _ (((goes_adv_is hc).trans (g _ _)).all al) h
   have hw:=wt_is hc
   refine ⟨x :: l,by rw [l1,x1];rfl,fun y hy => by rcases List.mem_cons.1 hy with rfl | hy;exact x2;exact l2 y hy,?_⟩
   rw [List.map_cons,List.sum_cons];omega
  ·rw [list_end (by simpa using hc)] at h ⊢
   exact ⟨[],rfl,fun x hx => by simp at hx,by simp⟩
theorem joinS_sum2 {β:Type} (tx:β → Str) {l:List β} (h0:l ≠ []):(joinS [44,32] (l.map tx)).length + 2 ≤ (l.map fun x => (tx x).length + 2).sum:=by
 cases l with
 | nil => exact absurd rfl h0
 | cons x l =>
  cases l with
  | nil => show (tx x).length + 2 ≤ _;simp
  | cons y l =>
   have:=joinS_sum2 tx (List.cons_ne_nil y l)
   show (tx x ++ ([44,32] ++ joinS [44,32] ((y :: l).map tx))).length + 2 ≤ _
   rw [List.map_cons (f:=fun x => (tx x).length + 2),List.sum_cons]
   simp only [List.length_append,List.length_cons,List.length_nil];omega
theorem list_read {α β:Type} {f:α → Ps → α × Ps} (g:∀ a s,Goes s (f a s).2) (put:α → β → α) (tx:β → Str) (ok:β → Prop)
 (hf:∀ a s,AllOk s → (f a s).2.e = 0 → ∃ x,(f a s).1 = put a x ∧ ok x ∧ (tx x).length + 2 + 2 * Wt (f a s).2 ≤ 2 * Wt s)
 (a:α) (s:Ps) (al:AllOk s) (h:(listP f a s).2.e = 0):∃ l:List β,l ≠ [] ∧ (listP f a s).1 = l.foldl put a ∧ (∀ x ∈ l,ok x) ∧ (joinS [44,32] (l.map tx)).length + 2 + 2 * Wt (listP f a s).2 ≤ 2 * Wt s:=by
 unfold listP at h ⊢
 have h2:=(goes_listLoop g _ _ _).back h
 obtain ⟨x,x1,x2,x3⟩:=hf a s al h2
 obtain ⟨l,l1,l2,l3⟩:=loop_read g put tx ok hf _ _ _ ((g a s).all al) h
 refine ⟨x :: l,List.cons_ne_nil _ _,by rw [l1,x1];rfl,fun y hy => by rcases List.mem_cons.1 hy with rfl | hy;exact x2;exact l2 y hy,?_⟩
 have:=joinS_sum2 tx (List.cons_ne_nil x l)
 rw [List.map_cons (f:=fun x => (tx x).length + 2),List.sum_cons] at this
 omega
theorem names_read {s:Ps} (a:AllOk s) (h:(namesP s).2.e = 0):(namesP s).1 ≠ [] ∧ (∀ n ∈ (namesP s).1,WordOk n) ∧ (joinS [44,32] (namesP s).1).length + 2 + 2 * Wt (namesP s).2 ≤ 2 * Wt s:=by
 obtain ⟨l,l0,l1,l2,l3⟩:=list_read (f:=fun a s => (a ++ [(nameP s).1],(nameP s).2)) (fun a s => goes_name s) (fun a x => a ++ [x]) id WordOk (fun acc s a h => by
  obtain ⟨h1,h2⟩:=wt_name a h
  refine ⟨_,rfl,h1,?_⟩
  show (nameP s).1.length + 2 + 2 * Wt (nameP s).2 ≤ 2 * Wt s
  omega) [] s a h
 have e:(namesP s).1 = l:=by rw [show (namesP s).1 = _ from l1,snoc_fold]
 rw [e]
 rw [List.map_id] at l3
 exact ⟨l0,l2,l3⟩
theorem pairs_read {s:Ps} (a:AllOk s) (h:(listP pairItem [] s).2.e = 0):(listP pairItem [] s).1 ≠ [] ∧ (∀ o ∈ (listP pairItem [] s).1,WordOk o.1 ∧ WordOk o.2) ∧ (joinS [44,32] ((listP pairItem [] s).1.map pairT)).length + 2 + 2 * Wt (listP pairItem [] s).2 ≤ 2 * Wt s:=by
 obtain ⟨l,l0,l1,l2,l3⟩:=list_read goes_pairItem (fun a x => a ++ [x]) pairT (fun o => WordOk o.1 ∧ WordOk o.2) (fun acc s a h => by
  have g1:=goes_name s
  have h2:(wantP [61] (nameP s).2).e = 0:=(goes_name _).back h
  have h1:(nameP s).2.e = 0:=(goes_want [61] _).back h2
  obtain ⟨n1,w1⟩:=wt_name a h1
  have w2:=wt_want h2
  obtain ⟨n3,w3⟩:=wt_name ((g1.trans (goes_want [61] _)).all a) h
  refine ⟨_,rfl,⟨n1,n3⟩,?_⟩
  unfold pairT
  simp only [List.length_append,List.length_cons,List.length_nil] at w2 ⊢
  change _ + 2 + 2 * Wt (nameP (wantP [61] (nameP s).2)).2 ≤ _
  omega) [] s a h
 rw [l1,snoc_fold]
 exact ⟨l0,l2,l3⟩
theorem orders_read {s:Ps} (a:AllOk s) (h:(listP orderItem [] s).2.e = 0):(listP orderItem [] s).1 ≠ [] ∧ (∀ o ∈ (listP orderItem [] s).1,WordOk o.1) ∧ (joinS [44,32] ((listP orderItem [] s).1.map ordT)).length + 2 + 2 * Wt (listP orderItem [] s).2 ≤ 2 * Wt s:=by
 obtain ⟨l,l0,l1,l2,l3⟩:=list_read goes_orderItem (fun a x => a ++ [x]) ordT (fun o => WordOk o.1) (fun acc s a h => by
  have h1:(nameP s).2.e = 0:=(goes_maybe sDown _).back h
  obtain ⟨n1,w1⟩:=wt_name a h1
  refine ⟨_,rfl,n1,?_⟩
  change (ordT ((nameP s).1,isP (nameP s).2 sDown)).length + 2 + 2 * Wt (maybeP sDown (nameP s).2) ≤ _
  unfold ordT maybeP
  simp only
  by_cases hd:isP (nameP s).2 sDown = true
  ·rw [if_pos hd,if_pos hd]
   have:=wt_is hd
   rw [show sDown.length = 4 from rfl] at this
   simp only [List.length_append,List.length_cons,List.length_nil];omega
  ·rw [if_neg hd,if_neg hd];omega) [] s a h
 rw [l1,snoc_fold]
 exact ⟨l0,l2,l3⟩
theorem aggs_read {s:Ps} (a:AllOk s) (h:(listP aggItem [] s).2.e = 0):(∀ g ∈ (listP aggItem [] s).1,g.1 ∈ aggWords ∧ (g.2.1 = [] ∨ WordOk g.2.1) ∧ WordOk g.2.2) ∧ (joinS [44,32] ((listP aggItem [] s).1.map aggT)).length + 2 + 2 * Wt (listP aggItem [] s).2 ≤ 2 * Wt s:=by
 obtain ⟨l,l0,l1,l2,l3⟩:=list_read goes_aggItem (fun a x => a ++ [x]) aggT (fun g => g.1 ∈ aggWords ∧ (g.2.1 = [] ∨ WordOk g.2.1) ∧ WordOk g.2.2) (fun acc s a h => by
  have g1:=goes_one aggWords s
  have g2:=g1.trans (goes_want [40] _)
  have g3:=g2.trans (goes_aggCol _)
  have g4:=g3.trans (goes_want [41] _)
  have g5:=g4.trans (goes_want sAs _)
  have h5:=(goes_name _).back h
  have h4:=(goes_want sAs _).back h5
  have h3:=(goes_want [41] _).back h4
  have h2:=(goes_aggCol _).back h3
  have h1:=(goes_want [40] _).back h2
  obtain ⟨k,k1,k2,w1⟩:=one_read h1
  have w2:=wt_want h2
  have w4:=wt_want h4
  have w5:=wt_want h5
  obtain ⟨n6,w6⟩:=wt_name (g5.all a) h
  have hcol:((aggCol (wantP [40] (oneP aggWords s).2)).1 = [] ∨ WordOk (aggCol (wantP [40] (oneP aggWords s).2)).1) ∧ (aggCol (wantP [40] (oneP aggWords s).2)).1.length + Wt (aggCol (wantP [40] (oneP aggWords s).2)).2 ≤ Wt (wantP [40] (oneP aggWords s).2):=by
   have g2a:=g2.all a
   generalize wantP [40] (oneP aggWords s).2 = z at h3 g2a ⊢
   unfold aggCol at h3 ⊢
   by_cases hz:isP z [41] = true
   ·rw [if_pos hz];exact ⟨.inl rfl,by simp⟩
   ·rw [if_neg hz] at h3 ⊢
    obtain ⟨n1,w1⟩:=wt_name g2a h3
    exact ⟨.inr n1,by omega⟩
  have hop:aggOp (oneP aggWords s).1 = aggWords.getD k []:=by
   rw [k2]
   unfold aggOp
   rw [if_neg (by omega),show 1 + k - 1 = k by omega]
  have hmem:aggWords.getD k [] ∈ aggWords:=by
   rw [List.getD_eq_getElem?_getD,List.getElem?_eq_getElem k1]
   exact List.getElem_mem _
  refine ⟨_,rfl,⟨by rw [hop];exact hmem,hcol.1,n6⟩,?_⟩
  unfold aggT
  simp only [hop,List.length_append,List.length_cons,List.length_nil,sAs] at w2 w4 w5 ⊢
  have hc2:=hcol.2
  change _ + 2 + 2 * Wt (nameP (wantP sAs (wantP [41] (aggCol (wantP [40] (oneP aggWords s).2)).2))).2 ≤ _
  simp only [sAs] at w6 ⊢
  omega) [] s a h
 rw [l1,snoc_fold]
 exact ⟨l2,l3⟩
theorem keeps_read {s:Ps} (a:AllOk s) (h:(listP keepItem ([],[]) s).2.e = 0):∃ xs ns,(listP keepItem ([],[]) s).1 = (xs,ns) ∧ xs ≠ [] ∧ xs.length = ns.length ∧ (∀ x ∈ xs,ExOk x) ∧ (∀ n ∈ ns,WordOk n) ∧ (joinS [44,32] (keptL xs ns)).length + 2 + 2 * Wt (listP keepItem ([],[]) s).2 ≤ 2 * Wt s:=by
 obtain ⟨l,l0,l1,l2,l3⟩:=list_read goes_keepItem (fun a p => (a.1 ++ [p.1],a.2 ++ [p.2])) (fun p => keepT p.1 p.2) (fun p:Ex × Str => ExOk p.1 ∧ WordOk p.2) (fun acc s a h => by
  have g1:=goes_whole s
  have g2:=g1.trans (goes_want sAs _)
  have h2:=(goes_name _).back h
  have h1:=(goes_want sAs _).back h2
  obtain ⟨o1,o2,o3⟩:=whole_rd s a h1
  have o4:=text_heavy _ o1
  have w2:=wt_want h2
  obtain ⟨n3,w3⟩:=wt_name (g2.all a) h
  refine ⟨((wholeP s).1,(nameP (wantP sAs (wholeP s).2)).1),rfl,⟨⟨o1,o2⟩,n3⟩,?_⟩
  unfold keepT
  simp only [List.length_append,List.length_cons,List.length_nil,sAs] at w2 w3 ⊢
  change _ + 2 + 2 * Wt (nameP (wantP sAs (wholeP s).2)).2 ≤ _
  simp only [sAs] at w3 ⊢
  omega) ([],[]) s a h
 have e1:(l.map (·.1)).zip (l.map (·.2)) = l:=by
  rw [List.zip_map'];simp
 refine ⟨l.map (·.1),l.map (·.2),by rw [l1,keep_fold];simp,by simpa using l0,by simp,fun x hx => ?_,fun n hn => ?_,?_⟩
 ·obtain ⟨p,hp,rfl⟩:=List.mem_map.1 hx
  exact (l2 p hp).1
 ·obtain ⟨p,hp,rfl⟩:=List.mem_map.1 hn
  exact (l2 p hp).2
 ·rw [keptL_map _ _ (by simp),e1];exact l3
theorem words_len:∀ (l:List Str),(wordsT l).length ≤ (l.map fun s => s.length + 1).sum
 | [] => Nat.zero_le _
 | a :: l => by
  have ih:=words_len l
  unfold wordsT at ih ⊢
  rw [List.filter_cons]
  split
  ·rw [List.map_cons,List.sum_cons]
   cases hf:l.filter (fun s => decide (s ≠ [])) with
   | nil => show a.length ≤ _;omega
   | cons b r =>
    rw [hf] at ih
    show (a ++ ([32] ++ joinS [32] (b :: r))).length ≤ _
    simp only [List.length_append,List.length_cons,List.length_nil];omega
  ·rw [List.map_cons,List.sum_cons];omega
def PRd (n:Nat) (f:PQ):Prop:=∀ s,AllOk s → (f s).2.e = 0 → OkQ (f s).1 ∧ deepQ (f s).1 ≤ n ∧ partN ((f s).1,deepQ (f s).1) ≤ n ∧ (textQ (f s).1).length + 2 + 2 * Wt (f s).2 ≤ 2 * Wt s ∧ (partT ((f s).1,textQ (f s).1)).length + 2 + 2 * Wt (f s).2 ≤ 2 * Wt s
def QRd (n:Nat) (f:PQ):Prop:=∀ s,AllOk s → (f s).2.e = 0 → OkQ (f s).1 ∧ deepQ (f s).1 ≤ n ∧ (textQ (f s).1).length + 2 + 2 * Wt (f s).2 ≤ 2 * Wt s
theorem part_read {n:Nat} (h:∀ m,n = m + 1 → QRd m (queryP (dparN m))):PRd n (partP (dparN n)):=fun s a e => by
 unfold partP at e ⊢
 by_cases hx:isP s [40] = true
 ·rw [if_pos hx] at e ⊢
  cases n with
  | zero => exact absurd e (fail_ok (by decide))
  | succ n =>
   change (wantP [41] (queryP (dparN n) (wantP [40] s)).2).e = 0 at e
   show OkQ (queryP (dparN n) (wantP [40] s)).1 ∧ _ ∧ _ ∧ (textQ (queryP (dparN n) (wantP [40] s)).1).length + 2 + 2 * Wt (wantP [41] (queryP (dparN n) (wantP [40] s)).2) ≤ _ ∧ (partT ((queryP (dparN n) (wantP [40] s)).1,textQ (queryP (dparN n) (wantP [40] s)).1)).length + 2 + 2 * Wt (wantP [41] (queryP (dparN n) (wantP [40] s)).2) ≤ _
   have g1:=goes_want [40] s
   have g2:=goes_query (goes_dparN n) (wantP [40] s)
   have e2:=(goes_want [41] _).back e
   have e1:=g2.back e2
   have w1:=wt_want e1
   have w3:=wt_want e
   obtain ⟨q1,q2,q3⟩:=h n rfl _ (g1.all a) e2
   simp only [List.length_cons,List.length_nil] at w1 w3
   refine ⟨q1,by show deepQ (queryP (dparN n) (wantP [40] s)).1 ≤ n + 1;omega,?_,by omega,?_⟩
   ·show partN ((queryP (dparN n) (wantP [40] s)).1,deepQ (queryP (dparN n) (wantP [40] s)).1) ≤ n + 1
    unfold partN
    split
    ·omega
    ·show deepQ (queryP (dparN n) (wantP [40] s)).1 + 1 ≤ n + 1
     omega
   ·unfold partT
    split
    ·rename_i hk
     obtain ⟨m,hm,hb⟩:=q1.scan_of hk
     rw [hb,textQ_scan] at q3
     simp only [hb]
     show m.length + _ + _ ≤ _
     omega
    ·simp only [List.length_cons,List.length_append,List.length_nil];omega
 ·rw [if_neg hx] at e ⊢
  obtain ⟨n1,w1⟩:=wt_name a e
  refine ⟨.scan _ n1,by rw [deepQ_scan];omega,by show partN (scanL _,_) ≤ n;unfold partN;rw [if_pos (show (scanL (nameP s).1).k = 1 from rfl)];omega,?_,?_⟩
  ·rw [textQ_scan]
   show (nameP s).1.length + 2 + 2 * Wt (nameP s).2 ≤ _
   omega
  ·unfold partT
   rw [if_pos (show (scanL (nameP s).1).k = 1 from rfl)]
   show (nameP s).1.length + 2 + 2 * Wt (nameP s).2 ≤ _
   omega
theorem joinP_read {n:Nat} {s:Ps} (h:PRd n (partP (dparN n))) (a:AllOk s) (e:(joinP (dparN n) s).2.e = 0) :
 OkQ (joinP (dparN n) s).1.1 ∧ partN ((joinP (dparN n) s).1.1,deepQ (joinP (dparN n) s).1.1) ≤ n ∧ (joinP (dparN n) s).1.2 ≠ [] ∧ (∀ o ∈ (joinP (dparN n) s).1.2,WordOk o.1 ∧ WordOk o.2) ∧
  (partT ((joinP (dparN n) s).1.1,textQ (joinP (dparN n) s).1.1)).length + 2 + (joinS [44,32] ((joinP (dparN n) s).1.2.map pairT)).length + 8 + 2 * Wt (joinP (dparN n) s).2 ≤ 2 * Wt s:=by
 change (listP pairItem [] (wantP sOn (partP (dparN n) s).2)).2.e = 0 at e
 have g1:=goes_part (goes_dparN n) s
 have g2:=g1.trans (goes_want sOn _)
 have e2:=(goes_list goes_pairItem [] _).back e
 have e1:=(goes_want sOn _).back e2
 obtain ⟨q1,q2,q3,q4,q5⟩:=h s a e1
 have w2:=wt_want e2
 obtain ⟨p1,p2,p3⟩:=pairs_read (g2.all a) e
 refine ⟨q1,q3,p1,p2,?_⟩
 show (partT ((partP (dparN n) s).1,textQ (partP (dparN n) s).1)).length + 2 + (joinS [44,32] ((listP pairItem [] (wantP sOn (partP (dparN n) s).2)).1.map pairT)).length + 8 + 2 * Wt (listP pairItem [] (wantP sOn (partP (dparN n) s).2)).2 ≤ _
 rw [show sOn.length = 2 from rfl] at w2
 omega
theorem step_read {n:Nat} (h:PRd n (partP (dparN n))) {over:Pl} (ho:OkQ over) (hd:deepQ over ≤ n) {s:Ps} (a:AllOk s) (e:(stepP (dparN n) over s).2.e = 0) :
 OkQ (stepP (dparN n) over s).1 ∧ deepQ (stepP (dparN n) over s).1 ≤ n ∧ (textQ (stepP (dparN n) over s).1).length + 2 * Wt (stepP (dparN n) over s).2 ≤ (textQ over).length + 3 + 2 * Wt s:=by
 unfold stepP at e ⊢
 have e1:=(goes_stepK (goes_dparN n) over (oneP stepWords s).1 (oneP stepWords s).2).back e
 obtain ⟨k,k1,k2,w1⟩:=one_read e1
 have a1:=(goes_one stepWords s).all a
 rw [k2] at e ⊢
 generalize (oneP stepWords s).2 = z at e w1 a1 ⊢
 match k,k1 with
 | 0,_ =>
  have w:sWhere.length + 1 + Wt z = Wt s:=w1
  rw [show sWhere.length = 5 from rfl] at w
  change (wholeP z).2.e = 0 at e
  obtain ⟨o1,o2,o3⟩:=whole_rd z a1 e
  have o4:=text_heavy _ o1
  refine ⟨.where_ over (wholeP z).1 ho ⟨o1,o2⟩,by show deepQ (.mk 2 [] [over] (wholeP z).1 [] [] [] [] [] 0) ≤ n;rw [deepQ_one _ _ _ _ _ _ _ _ _ (by decide)];exact hd,?_⟩
  show (textQ (.mk 2 [] [over] (wholeP z).1 [] [] [] [] [] 0)).length + 2 * Wt (wholeP z).2 ≤ _
  rw [textQ_one _ _ _ _ _ _ _ _ _ (by decide)]
  have hw:=words_len [sWhere,textE (wholeP z).1]
  show (textQ over ++ ([32,124,32] ++ wordsT [sWhere,textE (wholeP z).1])).length + _ ≤ _
  simp only [List.map_cons,List.map_nil,List.sum_cons,List.sum_nil,show sWhere.length = 5 from rfl] at hw
  simp only [List.length_append,List.length_cons,List.length_nil]
  omega
 | 1,_ =>
  have w:sKeep.length + 1 + Wt z = Wt s:=w1
  rw [show sKeep.length = 4 from rfl] at w
  change (listP keepItem ([],[]) z).2.e = 0 at e
  obtain ⟨xs,ns,r1,r2,r3,r4,r5,r6⟩:=keeps_read a1 e
  have hm:(stepK (dparN n) over (1 + 1) z) = (.mk 3 [] [over] zEx ns xs [] [] [] 0,(listP keepItem ([],[]) z).2):=by
   show (Pl.mk 3 [] [over] zEx (listP keepItem ([],[]) z).1.2 (listP keepItem ([],[]) z).1.1 [] [] [] 0,(listP keepItem ([],[]) z).2) = _
   rw [r1]
  rw [hm]
  refine ⟨.keep over ns xs ho r3 r2 r4 r5,by show deepQ (.mk 3 [] [over] zEx ns xs [] [] [] 0) ≤ n;rw [deepQ_one _ _ _ _ _ _ _ _ _ (by decide)];exact hd,?_⟩
  show (textQ (.mk 3 [] [over] zEx ns xs [] [] [] 0)).length + _ ≤ _
  rw [textQ_one _ _ _ _ _ _ _ _ _ (by decide)]
  have hw:=words_len [sKeep,joinS [44,32] (keptL xs ns)]
  show (textQ over ++ ([32,124,32] ++ wordsT [sKeep,joinS [44,32] (keptL xs ns)])).length + _ ≤ _
  simp only [List.map_cons,List.map_nil,List.sum_cons,List.sum_nil,show sKeep.length = 4 from rfl] at hw
  simp only [List.length_append,List.length_cons,List.length_nil]
  omega
 | 2,_ =>
  have w:sJoin.length + 1 + Wt z = Wt s:=w1
  rw [show sJoin.length = 4 from rfl] at w
  change (joinP (dparN n) z).2.e = 0 at e
  obtain ⟨q1,q2,q3,q4,q5⟩:=joinP_read h a1 e
  refine ⟨.join 4 over (joinP (dparN n) z).1.1 (joinP (dparN n) z).1.2 (.inl rfl) ho q1 q3 q4,by show deepQ (.mk 4 [] [over,(joinP (dparN n) z).1.1] zEx [] [] (joinP (dparN n) z).1.2 [] [] 0) ≤ n;rw [deepQ_two _ _ _ _ _ _ _ _ _ _ (by decide),Nat.max_le];exact ⟨hd,q2⟩,?_⟩
  show (textQ (.mk 4 [] [over,(joinP (dparN n) z).1.1] zEx [] [] (joinP (dparN n) z).1.2 [] [] 0)).length + 2 * Wt (joinP (dparN n) z).2 ≤ _
  rw [textQ_two _ _ _ _ _ _ _ _ _ _ (by decide)]
  have hw:=words_len [sJoin,partT ((joinP (dparN n) z).1.1,textQ (joinP (dparN n) z).1.1),sOn,joinS [44,32] ((joinP (dparN n) z).1.2.map pairT)]
  show (textQ over ++ ([32,124,32] ++ wordsT [sJoin,partT ((joinP (dparN n) z).1.1,textQ (joinP (dparN n) z).1.1),sOn,joinS [44,32] ((joinP (dparN n) z).1.2.map pairT)])).length + _ ≤ _
  simp only [List.map_cons,List.map_nil,List.sum_cons,List.sum_nil,show sJoin.length = 4 from rfl,show sOn.length = 2 from rfl] at hw
  simp only [List.length_append,List.length_cons,List.length_nil]
  omega
 | 3,_ =>
  have w:sLeft.length + 1 + Wt z = Wt s:=w1
  rw [show sLeft.length = 4 from rfl] at w
  change (joinP (dparN n) z).2.e = 0 at e
  obtain ⟨q1,q2,q3,q4,q5⟩:=joinP_read h a1 e
  refine ⟨.join 5 over (joinP (dparN n) z).1.1 (joinP (dparN n) z).1.2 (.inr rfl) ho q1 q3 q4,by show deepQ (.mk 5 [] [over,(joinP (dparN n) z).1.1] zEx [] [] (joinP (dparN n) z).1.2 [] [] 0) ≤ n;rw [deepQ_two _ _ _ _ _ _ _ _ _ _ (by decide),Nat.max_le];exact ⟨hd,q2⟩,?_⟩
  show (textQ (.mk 5 [] [over,(joinP (dparN n) z).1.1] zEx [] [] (joinP (dparN n) z).1.2 [] [] 0)).length + 2 * Wt (joinP (dparN n) z).2 ≤ _
  rw [textQ_two _ _ _ _ _ _ _ _ _ _ (by decide)]
  have hw:=words_len [sLeft,partT ((joinP (dparN n) z).1.1,textQ (joinP (dparN n) z).1.1),sOn,joinS [44,32] ((joinP (dparN n) z).1.2.map pairT)]
  show (textQ over ++ ([32,124,32] ++ wordsT [sLeft,partT ((joinP (dparN n) z).1.1,textQ (joinP (dparN n) z).1.1),sOn,joinS [44,32] ((joinP (dparN n) z).1.2.map pairT)])).length + _ ≤ _
  simp only [List.map_cons,List.map_nil,List.sum_cons,List.sum_nil,show sLeft.length = 4 from rfl,show sOn.length = 2 from rfl] at hw
  simp only [List.length_append,List.length_cons,List.length_nil]
  omega
 | 4,_ =>
  have w:sGroup.length + 1 + Wt z = Wt s:=w1
  rw [show sGroup.length = 5 from rfl] at w
  change (groupAggs (wantP [58] (groupNames z).2)).2.e = 0 at e
  have g1:=goes_groupNames z
  have g2:=g1.trans (goes_want [58] _)
  have e3:=(goes_groupAggs _).back e
  have e2:=(goes_want [58] _).back e3
  have w2:=wt_want e3
  have hn:(∀ m ∈ (groupNames z).1,WordOk m) ∧ (joinS [44,32] (groupNames z).1).length + 2 * Wt (groupNames z).2 ≤ 2 * Wt z:=by
   unfold groupNames at e2 ⊢
   split
   ·exact ⟨fun m hm => by simp at hm,by simp [joinS]⟩
   ·rename_i hx
    rw [if_neg hx] at e2
    obtain ⟨_,p2,p3⟩:=names_read a1 e2
    exact ⟨p2,by omega⟩
  have hg:(∀ g ∈ (groupAggs (wantP [58] (groupNames z).2)).1,g.1 ∈ aggWords ∧ (g.2.1 = [] ∨ WordOk g.2.1) ∧ WordOk g.2.2) ∧ (joinS [44,32] ((groupAggs (wantP [58] (groupNames z).2)).1.map aggT)).length + 2 * Wt (groupAggs (wantP [58] (groupNames z).2)).2 ≤ 2 * Wt (wantP [58] (groupNames z).2):=by
   have a2:=g2.all a1
   generalize wantP [58] (groupNames z).2 = y at e a2 ⊢
   unfold groupAggs at e ⊢
   split
   ·rename_i hx
    rw [if_pos hx] at e
    obtain ⟨p2,p3⟩:=aggs_read a2 e
    exact ⟨p2,by omega⟩
   ·exact ⟨fun m hm => by simp at hm,by simp [joinS]⟩
  refine ⟨.group over (groupNames z).1 (groupAggs (wantP [58] (groupNames z).2)).1 ho hn.1 hg.1,by show deepQ (.mk 6 [] [over] zEx (groupNames z).1 [] [] (groupAggs (wantP [58] (groupNames z).2)).1 [] 0) ≤ n;rw [deepQ_one _ _ _ _ _ _ _ _ _ (by decide)];exact hd,?_⟩
  show (textQ (.mk 6 [] [over] zEx (groupNames z).1 [] [] (groupAggs (wantP [58] (groupNames z).2)).1 [] 0)).length + 2 * Wt (groupAggs (wantP [58] (groupNames z).2)).2 ≤ _
  rw [textQ_one _ _ _ _ _ _ _ _ _ (by decide)]
  have hw:=words_len [sGroup,joinS [44,32] (groupNames z).1,[58],joinS [44,32] ((groupAggs (wantP [58] (groupNames z).2)).1.map aggT)]
  show (textQ over ++ ([32,124,32] ++ wordsT [sGroup,joinS [44,32] (groupNames z).1,[58],joinS [44,32] ((groupAggs (wantP [58] (groupNames z).2)).1.map aggT)])).length + _ ≤ _
  have h1:=hn.2
  have h2:=hg.2
  simp only [List.map_cons,List.map_nil,List.sum_cons,List.sum_nil,List.length_cons,List.length_nil,show sGroup.length = 5 from rfl] at hw w2
  simp only [List.length_append,List.length_cons,List.length_nil]
  omega
 | 5,_ =>
  have w:sUnion.length + 1 + Wt z = Wt s:=w1
  rw [show sUnion.length = 5 from rfl] at w
  change (partP (dparN n) z).2.e = 0 at e
  obtain ⟨q1,q2,q3,q4,q5⟩:=h z a1 e
  refine ⟨.union over (partP (dparN n) z).1 ho q1,by show deepQ (.mk 7 [] [over,(partP (dparN n) z).1] zEx [] [] [] [] [] 0) ≤ n;rw [deepQ_two _ _ _ _ _ _ _ _ _ _ (by decide),Nat.max_le];exact ⟨hd,q3⟩,?_⟩
  show (textQ (.mk 7 [] [over,(partP (dparN n) z).1] zEx [] [] [] [] [] 0)).length + 2 * Wt (partP (dparN n) z).2 ≤ _
  rw [textQ_two _ _ _ _ _ _ _ _ _ _ (by decide)]
  have hw:=words_len [sUnion,partT ((partP (dparN n) z).1,textQ (partP (dparN n) z).1)]
  show (textQ over ++ ([32,124,32] ++ wordsT [sUnion,partT ((partP (dparN n) z).1,textQ (partP (dparN n) z).1)])).length + _ ≤ _
  simp only [List.map_cons,List.map_nil,List.sum_cons,List.sum_nil,show sUnion.length = 5 from rfl] at hw
  simp only [List.length_append,List.length_cons,List.length_nil]
  omega
 | 6,_ =>
  have w:sDistinct.length + 1 + Wt z = Wt s:=w1
  rw [show sDistinct.length = 8 from rfl] at w
  refine ⟨.dist over ho,by show deepQ (.mk 8 [] [over] zEx [] [] [] [] [] 0) ≤ n;rw [deepQ_one _ _ _ _ _ _ _ _ _ (by decide)];exact hd,?_⟩
  show (textQ (.mk 8 [] [over] zEx [] [] [] [] [] 0)).length + 2 * Wt z ≤ _
  rw [textQ_one _ _ _ _ _ _ _ _ _ (by decide)]
  show (textQ over ++ ([32,124,32] ++ sDistinct)).length + _ ≤ _
  simp only [List.length_append,List.length_cons,List.length_nil,show sDistinct.length = 8 from rfl]
  omega
 | 7,_ =>
  have w:sFirst.length + 1 + Wt z = Wt s:=w1
  rw [show sFirst.length = 5 from rfl] at w
  change (firstBy (tokenP 2 z).2).2.e = 0 at e
  have g1:=goes_token 2 (by decide) z
  have e1:=(goes_firstBy _).back e
  obtain ⟨n0,n1,w2⟩:=wt_num a1 e1
  have hb:(∀ o ∈ (firstBy (tokenP 2 z).2).1,WordOk o.1) ∧ (if (firstBy (tokenP 2 z).2).1 = [] then 0 else 3) + (joinS [44,32] ((firstBy (tokenP 2 z).2).1.map ordT)).length + 2 * Wt (firstBy (tokenP 2 z).2).2 ≤ 2 * Wt (tokenP 2 z).2:=by
   have a2:=g1.all a1
   generalize (tokenP 2 z).2 = y at e a2 ⊢
   unfold firstBy at e ⊢
   split
   ·rename_i hx
    rw [if_pos hx] at e
    obtain ⟨p1,p2,p3⟩:=orders_read ((goes_adv_is hx).all a2) e
    have:=wt_is hx
    rw [show sBy.length = 2 from rfl] at this
    refine ⟨p2,?_⟩
    rw [if_neg p1];omega
   ·exact ⟨fun m hm => by simp at hm,by simp [joinS]⟩
  refine ⟨.first over (tokenP 2 z).1.n (firstBy (tokenP 2 z).2).1 ho n0 n1 hb.1,by show deepQ (.mk 9 [] [over] zEx [] [] [] [] (firstBy (tokenP 2 z).2).1 (tokenP 2 z).1.n) ≤ n;rw [deepQ_one _ _ _ _ _ _ _ _ _ (by decide)];exact hd,?_⟩
  show (textQ (.mk 9 [] [over] zEx [] [] [] [] (firstBy (tokenP 2 z).2).1 (tokenP 2 z).1.n)).length + 2 * Wt (firstBy (tokenP 2 z).2).2 ≤ _
  rw [textQ_one _ _ _ _ _ _ _ _ _ (by decide)]
  have hw:=words_len [sFirst,Lib.itoa (tokenP 2 z).1.n,if (firstBy (tokenP 2 z).2).1 = [] then [] else sBy,joinS [44,32] ((firstBy (tokenP 2 z).2).1.map ordT)]
  show (textQ over ++ ([32,124,32] ++ wordsT [sFirst,Lib.itoa (tokenP 2 z).1.n,if (firstBy (tokenP 2 z).2).1 = [] then [] else sBy,joinS [44,32] ((firstBy (tokenP 2 z).2).1.map ordT)])).length + _ ≤ _
  have h1:=hb.2
  by_cases hz:(firstBy (tokenP 2 z).2).1 = []
  ·rw [if_pos hz] at hw h1 ⊢
   simp only [List.map_cons,List.map_nil,List.sum_cons,List.sum_nil,List.length_nil,show sFirst.length = 5 from rfl] at hw
   simp only [List.length_append,List.length_cons,List.length_nil]
   omega
  ·rw [if_neg hz] at hw h1 ⊢
   simp only [List.map_cons,List.map_nil,List.sum_cons,List.sum_nil,show sFirst.length = 5 from rfl,show sBy.length = 2 from rfl] at hw
   simp only [List.length_append,List.length_cons,List.length_nil]
   omega
 | k + 8,h => exact absurd h (by show ¬ k + 8 < 8;omega)
theorem loopQ_read {n:Nat} (h:PRd n (partP (dparN n))):∀ (fuel:Nat) (q:Pl) (s:Ps) (W0:Nat),AllOk s → (queryLoop (dparN n) fuel q s).2.e = 0 → OkQ q → deepQ q ≤ n → (textQ q).length + 2 + 2 * Wt s ≤ W0 →
 OkQ (queryLoop (dparN n) fuel q s).1 ∧ deepQ (queryLoop (dparN n) fuel q s).1 ≤ n ∧ (textQ (queryLoop (dparN n) fuel q s).1).length + 2 + 2 * Wt (queryLoop (dparN n) fuel q s).2 ≤ W0
 | 0,q,s,W0,a,e,o,d,w => ⟨o,d,w⟩
 | fuel + 1,q,s,W0,a,e,o,d,w => by
  by_cases hx:isP s [124] = true
  ·rw [query_more hx] at e ⊢
   have ga:=goes_adv_is hx
   have gs:=goes_step (goes_dparN n) q (advP s)
   have e1:=(goes_queryLoop (goes_dparN n) fuel _ _).back e
   obtain ⟨q1,q2,q3⟩:=step_read h o d (ga.all a) e1
   have w1:=wt_is hx
   simp only [List.length_cons,List.length_nil] at w1
   exact loopQ_read h fuel _ _ W0 ((ga.trans gs).all a) e q1 q2 (by omega)
  ·rw [query_end (by simpa using hx)] at e ⊢
   exact ⟨o,d,w⟩
theorem query_read:∀ n,QRd n (queryP (dparN n)):=fun n => by
 induction n with
 | zero =>
  have hp:PRd 0 (partP (dparN 0)):=part_read fun m hm => by cases hm
  intro s a e
  have e1:=(goes_queryLoop (goes_dparN 0) _ _ _).back e
  obtain ⟨q1,q2,q3,q4,q5⟩:=hp s a e1
  exact loopQ_read hp _ _ _ _ ((goes_part (goes_dparN 0) s).all a) e q1 q2 q4
 | succ n ih =>
  have hp:PRd (n + 1) (partP (dparN (n + 1))):=part_read fun m hm => by cases hm;exact ih
  intro s a e
  have e1:=(goes_queryLoop (goes_dparN (n + 1)) _ _ _).back e
  obtain ⟨q1,q2,q3,q4,q5⟩:=hp s a e1
  exact loopQ_read hp _ _ _ _ ((goes_part (goes_dparN (n + 1)) s).all a) e q1 q2 q4
theorem topQ_read {s:Ps} (a:AllOk s) (e:(topQ s).2.e = 0):OkQ (topQ s).1 ∧ deepQ (topQ s).1 ≤ 31 ∧ (textQ (topQ s).1).length + 2 + 2 * Wt (topQ s).2 ≤ 2 * Wt s:=query_read 31 s a e
end Go.Proofs.YtonkjhmkppeagaaGreatDoor.Pz
namespace Go.Proofs.YtonkjhmkppeagaaGreatDoor.Pz
open Go Go.RowKit Lx
theorem queryOf_all (l:List UInt8):queryOf l = allR zPl (topQ (openP l)).2 (topQ (openP l)).1:=by
 unfold queryOf allR
 rw [show (topQ (openP l)).2.E = l.length from (goes_topQ (openP l)).E]
theorem open_at {l:Str} {ts:List Tk} (h:RdT l ts) (hl:l.length ≤ 16384):At (openP l) ts ∧ (openP l).T.length = ts.length:=by
 obtain ⟨ts',q,h1,h2⟩:=h 0
 have hlex:lexS l = (ts',q,0):=by unfold lexS;rw [if_neg (by omega)];exact h1
 unfold openP
 rw [hlex]
 exact ⟨⟨rfl,h2⟩,by rw [← h2,List.length_map]⟩
theorem all_done {α:Type} {z x:α} {l:Str} {ts:List Tk} (h:RdT l ts) (hl:l.length ≤ 16384) {s:Ps} (hs:s = advN (openP l) ts.length):allR z s x = (x,l.length,0):=by
 obtain ⟨ha,hn⟩:=open_at h hl
 subst hs
 have hd:allP (advN (openP l) ts.length) = advN (openP l) ts.length:=allP_done (by
  show ¬ ((openP l).i + ts.length < (openP l).T.length)
  rw [hn];show ¬ (0 + _ < _);omega)
 unfold allR
 rw [hd,if_pos (show (advN (openP l) ts.length).e = 0 from ha.1)]
 rfl
theorem all_err {α:Type} {z x:α} {s:Ps} (h:s.e ≠ 0):allR z s x = (z,s.a,s.e):=by unfold allR;rw [allP_err h,if_neg h]
theorem rd_query {p:Pl} (ok:OkQ p):RdT (textQ p) (tkQ p):=by
 have:=wrQ_all p ok [] [] RdT.nil Cl.nil
 rw [List.append_nil,List.append_nil] at this
 exact this
theorem queryOf_text {p:Pl} (ok:OkQ p) (hd:deepQ p ≤ 31) (hl:(textQ p).length ≤ 16384):queryOf (textQ p) = (p,(textQ p).length,0):=by
 have h:=rd_query ok
 obtain ⟨ha,hn⟩:=open_at h hl
 have hb:=(top_back ok (rest:=[]) (by rw [List.append_nil];exact ha) (Sg.nil _)).1 hd
 rw [queryOf_all,hb]
 exact all_done h hl rfl
theorem queryOf_ok {l:Str} (h:(queryOf l).2.2 = 0):OkQ (queryOf l).1 ∧ deepQ (queryOf l).1 ≤ 31 ∧ (textQ (queryOf l).1).length + 2 ≤ 4 * l.length ∧ (queryOf l).2.1 = l.length:=by
 rw [queryOf_all] at h ⊢
 unfold allR at h ⊢
 by_cases he:(allP (topQ (openP l)).2).e = 0
 ·rw [if_pos he]
  have hs:(topQ (openP l)).2.e = 0:=by
   apply Classical.byContradiction;intro hn
   rw [allP_err hn] at he;exact hn he
  obtain ⟨h1,h2,h3⟩:=topQ_read (s:=openP l) (toks_bd l).2.2 hs
  have h5:=wt_open l
  refine ⟨h1,h2,?_,(goes_topQ (openP l)).E⟩
  show (textQ (topQ (openP l)).1).length + 2 ≤ _
  omega
 ·rw [if_neg he] at h
  exact absurd h he
theorem brackets_back {p:Pl} (ok:OkQ p) {l:Str} (h:RdT l ((4,[40],0) :: (tkQ p ++ [(4,[41],0)]))) (hl:l.length ≤ 16384):(deepQ p ≤ 30 → queryOf l = (p,l.length,0)) ∧ (¬ deepQ p ≤ 30 → (queryOf l).2.2 = 52):=by
 obtain ⟨a,hn⟩:=open_at h hl
 obtain ⟨e1,h1⟩:=want_at (.inr rfl) a
 obtain ⟨r1,r2⟩:=back_of_run (run_all p ok) 30 (advP (openP l)) [(4,[41],0)] h1 (Sg.cons (by decide) _)
 have hpart:partP (dparN 31) (openP l) = ((queryP (dparN 30) (advP (openP l))).1,wantP [41] (queryP (dparN 30) (advP (openP l))).2):=by
  unfold partP
  rw [if_pos (by rw [is_at (.inr rfl) a];decide)]
  show parenQ (queryP (dparN 30)) (openP l) = _
  unfold parenQ
  rw [e1]
 have hq:topQ (openP l) = queryLoop (dparN 31) ((openP l).T.length + 1) (queryP (dparN 30) (advP (openP l))).1 (wantP [41] (queryP (dparN 30) (advP (openP l))).2):=by
  show queryLoop (dparN 31) ((openP l).T.length + 1) (partP (dparN 31) (openP l)).1 (partP (dparN 31) (openP l)).2 = _
  rw [hpart]
 rw [queryOf_all]
 refine ⟨fun hd => ?_,fun hd => ?_⟩
 ·rw [hq,r1 hd]
  simp only
  obtain ⟨e3,h3⟩:=want_at (.inr rfl) (h1.app (b:=[(4,[41],0)]))
  rw [e3,query_end (by rw [h3.is];rfl)]
  refine all_done h hl ?_
  rw [advN_one,advN_one,advN_advN,advN_advN]
  show advN (openP l) (1 + ((tkQ p).length + 1)) = advN (openP l) _
  congr 1
  rw [List.length_cons,List.length_append]
  show 1 + ((tkQ p).length + 1) = (tkQ p).length + 1 + 1
  omega
 ·have e52:=r2 hd
  have ew:wantP [41] (queryP (dparN 30) (advP (openP l))).2 = (queryP (dparN 30) (advP (openP l))).2:=(goes_want [41] _).er (by rw [e52];decide)
  have:(topQ (openP l)).2.e = 52:=by rw [hq,ew];exact run_err e52
  rw [all_err (by rw [this];decide)]
  exact this
end Go.Proofs.YtonkjhmkppeagaaGreatDoor.Pz
