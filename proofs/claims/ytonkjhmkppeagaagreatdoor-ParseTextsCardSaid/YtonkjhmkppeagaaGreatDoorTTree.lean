/- The tree of an expression: folds, how tight it is, how deep, how heavy, its text. No program in sight. The plain law of the reader: what it reads is well formed, no deeper than it may be, no heavier than its tokens. No program in sight. The plain law on tokens: a token's text in front of anything that does not go on with it is read as that token. No program in sight. The plain law of the reader: an expression's own tokens are read as that expression. No program in sight. The plain law of the text of an expression: it is cut into its tokens, and read back. No program in sight. -/
import Derived.Test.YtonkjhmkppeagaaGreatDoorTPsA
import Derived.Test.YtonkjhmkppeagaaGreatDoorTLexB
import Derived.Test.YtonkjhmkppeagaaGreatDoorTVal
set_option linter.unusedVariables false
namespace Go.Proofs.YtonkjhmkppeagaaGreatDoor.Pz
open Go Go.RowKit Lx
theorem Ex.ind {P:Ex→Prop} (h:∀ k nm v op xs,(∀ a ∈ xs,P a)→P (.mk k nm v op xs)):∀ x,P x
 | .mk k nm v op xs=>h k nm v op xs fun a ha=>Ex.ind h a
termination_by x=>SizeOf.sizeOf x
decreasing_by
 have:=List.sizeOf_lt_of_mem ha
 simp only [Ex.mk.sizeOf_spec]
 omega
def foldE {α:Type} (F:Int→Str→Vl→Str→List (Ex × α)→α):Ex→α
 | .mk k nm v op xs=>F k nm v op (xs.attach.map fun a=>(a.1,foldE F a.1))
termination_by x=>SizeOf.sizeOf x
decreasing_by
 have:=List.sizeOf_lt_of_mem a.2
 simp only [Ex.mk.sizeOf_spec]
 omega
theorem foldE_mk {α:Type} (F:Int→Str→Vl→Str→List (Ex × α)→α) (k:Int) (nm:Str) (v:Vl) (op:Str) (xs:List Ex) :
 foldE F (.mk k nm v op xs)=F k nm v op (xs.map fun a=>(a,foldE F a)):=by
 rw [foldE]
 congr 1
 exact List.attach_map_val (f:=fun a:Ex=>(a,foldE F a))
def rankOp (op:Str):Nat:=if op=sOr then 1 else if op=sAnd then 2 else if op ∈ cmpOps then 4 else if op ∈ sumOps then 5 else if op ∈ prodOps then 6 else 0
def rankE (x:Ex):Nat:=if x.k=4 then rankOp x.op else if x.k=3 then (if x.op=sNot then 3 else 7) else if x.k=2∧x.v.n < 0 then 7 else 8
def posC (x:Ex):Prop:=x.k=2∧x.v.k=1∧0 < x.v.n
instance (x:Ex):Decidable (posC x):=by unfold posC;infer_instance
def leftR (op:Str):Nat:=if rankOp op=4 then 5 else rankOp op
def showV (v:Vl):Str:=Va.showL v.k v.n ⟨v.t.toArray⟩
def wiT (least:Nat) (p:Ex × Str):Str:=if rankE p.1 < least then 40::(p.2++[41]) else p.2
def miT (p:Ex × Str):Str:=if posC p.1 then 40::(p.2++[41]) else wiT 7 p
def joinS (sep:Str):List Str→Str
 | []=>[]
 | [a]=>a
 | a::b::r=>a++(sep++joinS sep (b::r))
def textF (k:Int) (nm:Str) (v:Vl) (op:Str) (l:List (Ex × Str)):Str :=
 if k=1 then nm else if k=2 then showV v
 else if k=3 then (match l with|[p]=>if op=sNot then sNot++32::wiT 3 p else op++miT p|_=>[])
 else if k=4 then (match l with|[p,q]=>wiT (leftR op) p++(32::(op++32::wiT (rankOp op+1) q))|_=>[])
 else if k=5 then nm++40::(joinS [44,32] (l.map (·.2))++[41]) else []
def textE:Ex→Str:=foldE textF
def wiD (least:Nat) (p:Ex × Nat):Nat:=if rankE p.1 < least then p.2+1 else p.2
def miD (p:Ex × Nat):Nat:=if posC p.1 then p.2+1 else wiD 7 p
def maxL:List Nat→Nat
 | []=>0
 | a::r=>max a (maxL r)
theorem maxL_le {l:List Nat} {n:Nat}:maxL l≤n ↔ ∀ a ∈ l,a≤n:=by
 induction l with
 | nil=>simp [maxL]
 | cons a r ih =>
  rw [show maxL (a::r)=max a (maxL r) from rfl,Nat.max_le,ih]
  simp
def deepF (k:Int) (nm:Str) (v:Vl) (op:Str) (l:List (Ex × Nat)):Nat :=
 if k=3 then (match l with|[p]=>(if op=sNot then wiD 3 p else miD p)+1|_=>0)
 else if k=4 then (match l with|[p,q]=>max (wiD (leftR op) p) (wiD (rankOp op+1) q)|_=>0)
 else if k=5 then maxL (l.map fun p=>p.2+1) else 0
def deepE:Ex→Nat:=foldE deepF
def deepR (least:Nat) (x:Ex):Nat:=wiD least (x,deepE x)
def wiW (least:Nat) (p:Ex × Nat):Nat:=if rankE p.1 < least then p.2+4 else p.2
def miW (p:Ex × Nat):Nat:=if posC p.1 then p.2+4 else wiW 7 p
def constW (v:Vl):Nat :=
 if v.k=1 then (if v.n < 0 then (Lib.itoa (-v.n)).length+3 else (Lib.itoa v.n).length+1) else if v.k=2 then (Va.quotedL v.t).length+1 else 5
def heavyF (k:Int) (nm:Str) (v:Vl) (op:Str) (l:List (Ex × Nat)):Nat :=
 if k=1 then nm.length+1 else if k=2 then constW v
 else if k=3 then (match l with|[p]=>if op=sNot then wiW 3 p+4 else miW p+2|_=>0)
 else if k=4 then (match l with|[p,q]=>wiW (leftR op) p+(op.length+1)+wiW (rankOp op+1) q|_=>0)
 else if k=5 then nm.length+3+(l.map fun p=>p.2+2).sum else 0
def heavyE:Ex→Nat:=foldE heavyF
def heavyR (least:Nat) (x:Ex):Nat:=wiW least (x,heavyE x)
def NameOk (n:Str):Prop:=TokOk ⟨1,n,0,0⟩∧n≠sAnd∧n≠sOr∧n≠sNot∧n≠sNull
inductive OkE:Ex→Prop
 | col (n:Str) (h:NameOk n):OkE (columnE n)
 | null:OkE (constE zV)
 | num (n:Int) (h0:-9223372036854775807≤n) (h1:n≤9223372036854775807):OkE (constE ⟨1,n,[]⟩)
 | txt (t:Str) (h:TokOk ⟨3,t,0,0⟩):OkE (constE ⟨2,0,t⟩)
 | not (a:Ex) (h:OkE a):OkE (unaryE sNot a)
 | neg (a:Ex) (h:OkE a):OkE (unaryE [45] a)
 | bin (op:Str) (a b:Ex) (ho:rankOp op≠0) (ha:OkE a) (hb:OkE b):OkE (binaryE op a b)
 | call (n:Str) (xs:List Ex) (h:NameOk n) (h0:xs≠[]) (hx:∀ a ∈ xs,OkE a):OkE (callE n xs)
theorem textE_col (n:Str):textE (columnE n)=n:=by unfold textE columnE;rw [foldE_mk];rfl
theorem textE_const (v:Vl):textE (constE v)=showV v:=by unfold textE constE;rw [foldE_mk];rfl
theorem textE_not (a:Ex):textE (unaryE sNot a)=sNot++32::wiT 3 (a,textE a):=by unfold textE unaryE;rw [foldE_mk];rfl
theorem textE_neg (a:Ex):textE (unaryE [45] a)=[45]++miT (a,textE a):=by unfold textE unaryE;rw [foldE_mk];rfl
theorem textE_bin (op:Str) (a b:Ex):textE (binaryE op a b)=wiT (leftR op) (a,textE a)++(32::(op++32::wiT (rankOp op+1) (b,textE b))):=by unfold textE binaryE;rw [foldE_mk];rfl
theorem textE_call (n:Str) (xs:List Ex):textE (callE n xs)=n++40::(joinS [44,32] (xs.map textE)++[41]):=by
 unfold textE callE;rw [foldE_mk]
 show n++40::(joinS [44,32] ((xs.map fun a=>(a,foldE textF a)).map (·.2))++[41])=_
 rw [List.map_map];rfl
theorem deepE_col (n:Str):deepE (columnE n)=0:=by unfold deepE columnE;rw [foldE_mk];rfl
theorem deepE_const (v:Vl):deepE (constE v)=0:=by unfold deepE constE;rw [foldE_mk];rfl
theorem deepE_not (a:Ex):deepE (unaryE sNot a)=deepR 3 a+1:=by unfold deepE unaryE;rw [foldE_mk];rfl
theorem deepE_neg (a:Ex):deepE (unaryE [45] a)=miD (a,deepE a)+1:=by unfold deepE unaryE;rw [foldE_mk];rfl
theorem deepE_bin (op:Str) (a b:Ex):deepE (binaryE op a b)=max (deepR (leftR op) a) (deepR (rankOp op+1) b):=by unfold deepE binaryE;rw [foldE_mk];rfl
theorem deepE_call (n:Str) (xs:List Ex):deepE (callE n xs)=maxL (xs.map fun a=>deepE a+1):=by
 unfold deepE callE;rw [foldE_mk]
 show maxL ((xs.map fun a=>(a,foldE deepF a)).map fun p=>p.2+1)=_
 rw [List.map_map];rfl
theorem heavyE_col (n:Str):heavyE (columnE n)=n.length+1:=by unfold heavyE columnE;rw [foldE_mk];rfl
theorem heavyE_const (v:Vl):heavyE (constE v)=constW v:=by unfold heavyE constE;rw [foldE_mk];rfl
theorem heavyE_not (a:Ex):heavyE (unaryE sNot a)=heavyR 3 a+4:=by unfold heavyE unaryE;rw [foldE_mk];rfl
theorem heavyE_neg (a:Ex):heavyE (unaryE [45] a)=miW (a,heavyE a)+2:=by unfold heavyE unaryE;rw [foldE_mk];rfl
theorem heavyE_bin (op:Str) (a b:Ex):heavyE (binaryE op a b)=heavyR (leftR op) a+(op.length+1)+heavyR (rankOp op+1) b:=by unfold heavyE binaryE;rw [foldE_mk];rfl
theorem heavyE_call (n:Str) (xs:List Ex):heavyE (callE n xs)=n.length+3+(xs.map fun a=>heavyE a+2).sum:=by
 unfold heavyE callE;rw [foldE_mk]
 show n.length+3+((xs.map fun a=>(a,foldE heavyF a)).map fun p=>p.2+2).sum=_
 rw [List.map_map];rfl
theorem rank_col (n:Str):rankE (columnE n)=8:=rfl
theorem rank_call (n:Str) (xs:List Ex):rankE (callE n xs)=8:=rfl
theorem rank_not (a:Ex):rankE (unaryE sNot a)=3:=by unfold rankE unaryE;simp [Ex.k,Ex.op]
theorem rank_neg (a:Ex):rankE (unaryE [45] a)=7:=by unfold rankE unaryE;simp [Ex.k,Ex.op,sNot]
theorem rank_bin (op:Str) (a b:Ex):rankE (binaryE op a b)=rankOp op:=by unfold rankE binaryE;simp [Ex.k,Ex.op]
theorem rank_const (v:Vl):rankE (constE v)=if v.n < 0 then 7 else 8:=by unfold rankE constE;simp [Ex.k,Ex.v]
theorem rankOp_le (op:Str):rankOp op≤6:=by unfold rankOp;split;omega;split;omega;split;omega;split;omega;split<;>omega
theorem OkE.rank {x:Ex} (h:OkE x):1≤rankE x∧rankE x≤8:=by
 cases h with
 | col n h=>rw [rank_col];omega
 | null=>rw [rank_const];split<;>omega
 | num n h0 h1=>rw [rank_const];split<;>omega
 | txt t h=>rw [rank_const];split<;>omega
 | not a h=>rw [rank_not];omega
 | neg a h=>rw [rank_neg];omega
 | bin op a b ho ha hb=>rw [rank_bin];have:=rankOp_le op;omega
 | call n xs h h0 hx=>rw [rank_call];omega
theorem deepR_mono {r r':Nat} (h:r≤r') (x:Ex):deepR r x≤deepR r' x:=by
 unfold deepR wiD;simp only;split<;>split<;>omega
theorem deepR_le (r:Nat) (x:Ex):deepE x≤deepR r x∧deepR r x≤deepE x+1:=by unfold deepR wiD;simp only;split<;>omega
theorem deepR_at {r:Nat} {x:Ex} (h:r≤rankE x):deepR r x=deepE x:=by unfold deepR wiD;simp only;rw [if_neg (by omega)]
theorem heavyR_mono {r r':Nat} (h:r≤r') (x:Ex):heavyR r x≤heavyR r' x:=by
 unfold heavyR wiW;simp only;split<;>split<;>omega
theorem heavyR_le (r:Nat) (x:Ex):heavyE x≤heavyR r x∧heavyR r x≤heavyE x+4:=by unfold heavyR wiW;simp only;split<;>omega
theorem heavyR_at {r:Nat} {x:Ex} (h:r≤rankE x):heavyR r x=heavyE x:=by unfold heavyR wiW;simp only;rw [if_neg (by omega)]
end Go.Proofs.YtonkjhmkppeagaaGreatDoor.Pz
namespace Go.Proofs.YtonkjhmkppeagaaGreatDoor.Pz
open Go Go.RowKit Lx
def AllOk (s:Ps):Prop:=∀ t ∈ s.T,TokOk t
def Wt (s:Ps):Nat:=((s.T.drop s.i).map fun t=>(sh t).length+1).sum
theorem Goes.all {s s':Ps} (h:Goes s s') (a:AllOk s):AllOk s':=by unfold AllOk;rw [h.T];exact a
theorem Goes.back {s s':Ps} (h:Goes s s') (e:s'.e=0):s.e=0:=by
 apply Classical.byContradiction;intro hn
 rw [h.er hn] at e;exact hn e
theorem wt_adv {s:Ps} (h:(peekP s).k≠0):Wt s=(sh (peekP s)).length+1+Wt (advP s):=by
 obtain ⟨h1,h2,h3⟩:=peek_some h
 unfold Wt advP
 simp only
 rw [List.drop_eq_getElem_cons h2,List.map_cons,List.sum_cons]
 rw [List.getElem?_eq_getElem h2] at h3
 simp only [Option.some.injEq] at h3
 rw [h3]
theorem peek_ok {s:Ps} (a:AllOk s) (h:(peekP s).k≠0):TokOk (peekP s):=a _ (List.mem_of_getElem? (peek_some h).2.2)
theorem wt_is {s:Ps} {x:Str} (h:isP s x=true):Wt s=x.length+1+Wt (advP s):=by
 rw [wt_adv (isP_kind h)]
 unfold isP at h
 rw [decide_eq_true_eq] at h
 have:sh (peekP s)=x:=by
  unfold sh
  rw [if_neg (by rcases h.1 with h|h<;>rw [h]<;>decide),if_neg (by rcases h.1 with h|h<;>rw [h]<;>decide)]
  exact h.2
 rw [this]
theorem want_ok {s:Ps} {x:Str} (h:(wantP x s).e=0):isP s x=true∧wantP x s=advP s:=by
 unfold wantP at h ⊢
 split at h
 ·rename_i hi;rw [if_pos hi];exact ⟨hi,rfl⟩
 ·exfalso
  unfold failP at h
  split at h
  ·revert h;show ¬ (51:Int)=0;decide
  ·rename_i hn;exact hn h
theorem fail_ok {s:Ps} {e:Int} (he:e≠0):(failP s e).e≠0:=by
 unfold failP
 split
 ·exact he
 ·assumption
def Rd (r n m:Nat) (f:PE):Prop:=∀ s,AllOk s→(f s).2.e=0→OkE (f s).1∧deepR r (f s).1+m≤n∧heavyR r (f s).1+Wt (f s).2≤Wt s
theorem Rd.weak {r r' n m:Nat} {f:PE} (h:Rd r n m f) (hr:r'≤r):Rd r' n m f:=fun s a e=>by
 obtain ⟨h1,h2,h3⟩:=h s a e
 have:=deepR_mono hr (f s).1
 have:=heavyR_mono hr (f s).1
 exact ⟨h1,by omega,by omega⟩
theorem rank_ops {r:Nat} {ops:List Str} (h:∀ o ∈ ops,rankOp o=r) {s:Ps} {k:Nat} (hk:firstOp ops s=some k):rankOp (ops.getD k [])=r∧isP s (ops.getD k [])=true:=by
 obtain ⟨o,h1,h2⟩:=firstOp_is hk
 have e:ops.getD k []=o:=by rw [List.getD_eq_getElem?_getD,h1];rfl
 rw [e]
 exact ⟨h o (List.mem_of_getElem? h1),h2⟩
theorem bin_rd {op:Str} {n:Nat} {a b:Ex} {W0 W1 W2 W3:Nat} (ho:rankOp op≠0) (ha:OkE a) (hb:OkE b) (da:deepR (leftR op) a≤n) (db:deepR (rankOp op+1) b≤n)
 (wa:heavyR (leftR op) a+W1≤W0) (w1:W1=op.length+1+W2) (wb:heavyR (rankOp op+1) b+W3≤W2):OkE (binaryE op a b)∧deepR (rankOp op) (binaryE op a b)≤n∧heavyR (rankOp op) (binaryE op a b)+W3≤W0:=by
 refine ⟨.bin op a b ho ha hb,?_,?_⟩
 ·rw [deepR_at (by rw [rank_bin];exact Nat.le_refl _),deepE_bin]
  exact Nat.max_le.2 ⟨da,db⟩
 ·rw [heavyR_at (by rw [rank_bin];exact Nat.le_refl _),heavyE_bin]
  omega
theorem rd_chainLoop {f:PE} {r n:Nat} {ops:List Str} (hf:Rd (r+1) n 0 f) (hg:GoesE f) (hr:r≠0) (h4:r≠4) (ho:∀ o ∈ ops,rankOp o=r) :
 ∀ (fuel:Nat) (x:Ex) (s:Ps) (W0:Nat),AllOk s→(chainLoop f ops fuel x s).2.e=0→OkE x→deepR r x≤n→heavyR r x+Wt s≤W0 →
  OkE (chainLoop f ops fuel x s).1∧deepR r (chainLoop f ops fuel x s).1≤n∧heavyR r (chainLoop f ops fuel x s).1+Wt (chainLoop f ops fuel x s).2≤W0
 | 0,x,s,W0,a,e,ok,d,w=>⟨ok,d,w⟩
 | fuel+1,x,s,W0,a,e,ok,d,w=>by
  cases h:firstOp ops s with
  | none=>rw [chain_end h];exact ⟨ok,d,w⟩
  | some k =>
   rw [chain_more h] at e ⊢
   obtain ⟨h1,h2⟩:=rank_ops ho h
   have ga:=goes_adv_is h2
   have e2:(f (advP s)).2.e=0:=(goes_chainLoop hg ops fuel _ _).back e
   obtain ⟨o1,o2,o3⟩:=hf (advP s) (ga.all a) e2
   have hw:=wt_is h2
   have hl:leftR (ops.getD k [])=r:=by unfold leftR;rw [h1,if_neg h4]
   obtain ⟨b1,b2,b3⟩:=bin_rd (n:=n) (W0:=W0) (by rw [h1];exact hr) ok o1 (by rw [hl];exact d) (by rw [h1];omega) (by rw [hl];exact w) hw (by rw [h1];exact o3)
   rw [h1] at b2 b3
   exact rd_chainLoop hf hg hr h4 ho fuel _ _ W0 ((ga.trans (hg _)).all a) e b1 b2 b3
theorem rd_chain {f:PE} {r n:Nat} {ops:List Str} (hf:Rd (r+1) n 0 f) (hg:GoesE f) (hr:r≠0) (h4:r≠4) (ho:∀ o ∈ ops,rankOp o=r):Rd r n 0 (chainP f ops):=fun s a e=>by
 have e2:(f s).2.e=0:=(goes_chainLoop hg ops _ _ _).back e
 obtain ⟨o1,o2,o3⟩:=hf s a e2
 have d:=deepR_mono (Nat.le_add_right r 1) (f s).1
 have w:=heavyR_mono (Nat.le_add_right r 1) (f s).1
 exact rd_chainLoop hf hg hr h4 ho _ _ _ (Wt s) ((hg s).all a) e o1 (by omega) (by omega)
theorem rd_compare {f:PE} {n:Nat} (hf:Rd 5 n 0 f) (hg:GoesE f):Rd 4 n 0 (compareP f):=fun s a e=>by
 unfold compareP at e ⊢
 cases h:firstOp cmpOps (f s).2 with
 | none =>
  rw [h] at e
  exact hf.weak (by omega) s a e
 | some k =>
  rw [h] at e
  simp only at e ⊢
  obtain ⟨h1,h2⟩:=rank_ops (r:=4) (by decide) h
  have ga:=goes_adv_is h2
  have e1:(f s).2.e=0:=((ga.trans (hg _)).back e)
  obtain ⟨o1,o2,o3⟩:=hf s a e1
  obtain ⟨p1,p2,p3⟩:=hf _ (((hg s).trans ga).all a) e
  have hw:=wt_is h2
  have hl:leftR (cmpOps.getD k [])=5:=by unfold leftR;rw [h1,if_pos rfl]
  obtain ⟨b1,b2,b3⟩:=bin_rd (n:=n) (W0:=Wt s) (by rw [h1];decide) o1 p1 (by rw [hl];omega) (by rw [h1];omega) (by rw [hl];exact o3) hw (by rw [h1];exact p3)
  rw [h1] at b2 b3
  exact ⟨b1,b2,b3⟩
theorem rd_not {f g:PE} {n:Nat} (hf:Rd 3 n 1 f) (hg:Rd 4 n 0 g):Rd 3 n 0 (notP f g):=fun s a e=>by
 unfold notP at e ⊢
 by_cases h:isP s sNot=true
 ·rw [if_pos h] at e ⊢
  simp only at e ⊢
  obtain ⟨o1,o2,o3⟩:=hf (advP s) ((goes_adv_is h).all a) e
  have hw:=wt_is h
  rw [show sNot.length=3 from rfl] at hw
  refine ⟨.not _ o1,?_,?_⟩
  ·rw [deepR_at (by rw [rank_not];omega),deepE_not];omega
  ·rw [heavyR_at (by rw [rank_not];omega),heavyE_not];omega
 ·rw [if_neg h] at e ⊢
  exact hg.weak (by omega) s a e
def Ng (n m:Nat) (f:PE):Prop:=∀ s,AllOk s→(f s).2.e=0→posC (f s).1→¬ ((peekP s).k=2∧0 < (peekP s).n)→m < n∧heavyE (f s).1+4+Wt (f s).2≤Wt s
theorem tok_num {t:Tok} (h:TokOk t) (hk:t.k=2):t.t=[]∧0≤t.n∧t.n≤9223372036854775807:=by
 rcases h with ⟨h1,_⟩|⟨h1,h2⟩|⟨h1,_⟩|⟨h1,_⟩
 ·rw [hk] at h1;exact absurd h1 (by decide)
 ·exact h2
 ·rw [hk] at h1;exact absurd h1 (by decide)
 ·rw [hk] at h1;exact absurd h1 (by decide)
theorem tok_word {t:Tok} (h:TokOk t) (hk:t.k=1):TokOk ⟨1,t.t,0,0⟩:=by
 rcases h with ⟨h1,h2⟩|⟨h1,_⟩|⟨h1,_⟩|⟨h1,_⟩
 ·exact .inl ⟨rfl,rfl,h2.2⟩
 ·rw [hk] at h1;exact absurd h1 (by decide)
 ·rw [hk] at h1;exact absurd h1 (by decide)
 ·rw [hk] at h1;exact absurd h1 (by decide)
theorem tok_text {t:Tok} (h:TokOk t) (hk:t.k=3):TokOk ⟨3,t.t,0,0⟩:=by
 rcases h with ⟨h1,_⟩|⟨h1,_⟩|⟨h1,h2⟩|⟨h1,_⟩
 ·rw [hk] at h1;exact absurd h1 (by decide)
 ·rw [hk] at h1;exact absurd h1 (by decide)
 ·exact .inr (.inr (.inl ⟨rfl,rfl,h2.2⟩))
 ·rw [hk] at h1;exact absurd h1 (by decide)
theorem sh_num {t:Tok} (hk:t.k=2):sh t=Lib.itoa t.n:=by unfold sh;rw [if_pos hk]
theorem sh_text {t:Tok} (hk:t.k=3):sh t=Va.quotedL t.t:=by unfold sh;rw [if_neg (by rw [hk];decide),if_pos hk]
theorem sh_word {t:Tok} (hk:t.k=1):sh t=t.t:=by unfold sh;rw [if_neg (by rw [hk];decide),if_neg (by rw [hk];decide)]
theorem const_rd (r:Nat) (hr:r≤7) (v:Vl) (hp:OkE (constE v)) {W0 W1:Nat} (hw:constW v+W1≤W0) (n:Nat):OkE (constE v)∧deepR r (constE v)+0≤n∧heavyR r (constE v)+W1≤W0:=by
 have h7:r≤rankE (constE v):=by rw [rank_const];split<;>omega
 refine ⟨hp,?_,?_⟩
 ·rw [deepR_at h7,deepE_const];omega
 ·rw [heavyR_at h7,heavyE_const];exact hw
theorem const_rd8 (r:Nat) (hr:r≤8) (v:Vl) (h0:0≤v.n) (hp:OkE (constE v)) {W0 W1:Nat} (hw:constW v+W1≤W0) (n:Nat):OkE (constE v)∧deepR r (constE v)+0≤n∧heavyR r (constE v)+W1≤W0:=by
 have h7:r≤rankE (constE v):=by rw [rank_const,if_neg (by omega)];omega
 refine ⟨hp,?_,?_⟩
 ·rw [deepR_at h7,deepE_const];omega
 ·rw [heavyR_at h7,heavyE_const];exact hw
theorem list_rd {f:PE} {n:Nat} (hf:Rd 1 n 1 f) (hg:GoesE f) :
 ∀ (fuel:Nat) (acc:List Ex) (s:Ps) (W0:Nat),AllOk s→(listLoop (argP f) fuel acc s).2.e=0→acc≠[]→(∀ a ∈ acc,OkE a∧deepE a+1≤n)→(acc.map fun a=>heavyE a+2).sum+Wt s≤W0 →
  (listLoop (argP f) fuel acc s).1≠[]∧(∀ a ∈ (listLoop (argP f) fuel acc s).1,OkE a∧deepE a+1≤n)∧((listLoop (argP f) fuel acc s).1.map fun a=>heavyE a+2).sum+Wt (listLoop (argP f) fuel acc s).2≤W0
 | 0,acc,s,W0,a,e,h0,ok,w=>⟨h0,ok,w⟩
 | fuel+1,acc,s,W0,a,e,h0,ok,w=>by
  cases h:isP s [44] with
  | false=>rw [list_end h];exact ⟨h0,ok,w⟩
  | true =>
   rw [list_more h] at e ⊢
   have ga:=goes_adv_is h
   have e2:(f (advP s)).2.e=0:=(goes_listLoop (goes_arg hg) fuel _ _).back e
   obtain ⟨o1,o2,o3⟩:=hf (advP s) (ga.all a) e2
   have hw:=wt_is h
   rw [show [(44:UInt8)].length=1 from rfl] at hw
   have hd:=(deepR_le 1 (f (advP s)).1).1
   have hh:=(heavyR_le 1 (f (advP s)).1).1
   refine list_rd hf hg fuel _ _ W0 ((ga.trans (hg _)).all a) e (by unfold argP;simp) (fun x hx=>?_) ?_
   ·unfold argP at hx
    simp only [List.mem_append,List.mem_singleton] at hx
    rcases hx with hx|rfl
    ·exact ok x hx
    ·exact ⟨o1,by omega⟩
   ·unfold argP
    simp only [List.map_append,List.map_cons,List.map_nil,List.sum_append,List.sum_cons,List.sum_nil]
    omega
theorem rd_prim {f g:PE} {n:Nat} (hf:Rd 1 n 1 f) (hF:GoesE f) (hg:Rd 8 n 0 g):Rd 8 n 0 (primP f g):=fun s a e=>by
 unfold primP at e ⊢
 by_cases h2:(peekP s).k=2
 ·rw [if_pos h2] at e ⊢
  have hk:(peekP s).k≠0:=by rw [h2];decide
  obtain ⟨t1,t2,t3⟩:=tok_num (peek_ok a hk) h2
  have hw:=wt_adv hk
  rw [sh_num h2] at hw
  refine const_rd8 8 (by omega) _ t2 (.num _ (by omega) t3) ?_ n
  unfold constW
  rw [if_pos rfl,if_neg (by show ¬ (peekP s).n < 0;omega)]
  show (Lib.itoa (peekP s).n).length+1+Wt (advP s)≤Wt s
  omega
 rw [if_neg h2] at e ⊢
 by_cases h3:(peekP s).k=3
 ·rw [if_pos h3] at e ⊢
  have hk:(peekP s).k≠0:=by rw [h3];decide
  have hw:=wt_adv hk
  rw [sh_text h3] at hw
  refine const_rd8 8 (by omega) _ (Int.le_refl 0) (.txt _ (tok_text (peek_ok a hk) h3)) ?_ n
  unfold constW
  rw [if_neg (by show ¬ (2:Int)=1;decide),if_pos rfl]
  show (Va.quotedL (peekP s).t).length+1+Wt (advP s)≤Wt s
  omega
 rw [if_neg h3] at e ⊢
 by_cases hn:isP s sNull=true
 ·rw [if_pos hn] at e ⊢
  have hw:=wt_is hn
  rw [show sNull.length=4 from rfl] at hw
  refine const_rd8 8 (by omega) _ (Int.le_refl 0) .null ?_ n
  show 5+Wt (advP s)≤Wt s
  omega
 rw [if_neg hn] at e ⊢
 by_cases hp:isP s [40]=true
 ·rw [if_pos hp] at e ⊢
  exact hg s a e
 rw [if_neg hp] at e ⊢
 by_cases hb:(peekP s).k≠1∨(peekP s).t=sAnd∨(peekP s).t=sOr∨(peekP s).t=sNot
 ·rw [if_pos hb] at e
  exact absurd e (fail_ok (by decide))
 rw [if_neg hb] at e ⊢
 have h1:(peekP s).k=1:=Classical.byContradiction fun hn=>hb (.inl hn)
 have hk:(peekP s).k≠0:=by rw [h1];decide
 have hnull:(peekP s).t≠sNull:=fun hh=>by
  apply hn
  unfold isP
  rw [decide_eq_true_eq]
  exact ⟨.inl h1,hh⟩
 have hok:NameOk (peekP s).t:=⟨tok_word (peek_ok a hk) h1,fun h=>hb (.inr (.inl h)),fun h=>hb (.inr (.inr (.inl h))),fun h=>hb (.inr (.inr (.inr h))),hnull⟩
 have hw:=wt_adv hk
 rw [sh_word h1] at hw
 have ga:=goes_adv hk
 by_cases hc:isP (advP s) [40]=true
 ·rw [if_pos hc] at e ⊢
  simp only at e ⊢
  obtain ⟨w1,w2⟩:=want_ok e
  rw [w2] at e ⊢
  have hw2:=wt_is hc
  have hw3:=wt_is w1
  rw [show [(40:UInt8)].length=1 from rfl] at hw2
  rw [show [(41:UInt8)].length=1 from rfl] at hw3
  have gb:=ga.trans (goes_adv_is hc)
  have e3:(listP (argP f) [] (advP (advP s))).2.e=0:=(isP_some w1).1
  have e4:(f (advP (advP s))).2.e=0:=(goes_listLoop (goes_arg hF) _ _ _).back e3
  obtain ⟨o1,o2,o3⟩:=hf _ (gb.all a) e4
  have hd:=(deepR_le 1 (f (advP (advP s))).1).1
  have hh:=(heavyR_le 1 (f (advP (advP s))).1).1
  obtain ⟨l1,l2,l3⟩:=list_rd hf hF ((advP (advP s)).T.length+1) (argP f [] (advP (advP s))).1 (argP f [] (advP (advP s))).2 (Wt (advP (advP s))+2) ((gb.trans (hF _)).all a) e3 (by unfold argP;simp) (fun x hx=>by
   unfold argP at hx
   simp only [List.nil_append,List.mem_singleton] at hx
   subst hx
   exact ⟨o1,by omega⟩) (by
   unfold argP
   simp only [List.nil_append,List.map_cons,List.map_nil,List.sum_cons,List.sum_nil]
   omega)
  change (listP (argP f) [] (advP (advP s))).1≠[] at l1
  change ∀ a ∈ (listP (argP f) [] (advP (advP s))).1,_ at l2
  change ((listP (argP f) [] (advP (advP s))).1.map fun a=>heavyE a+2).sum+Wt (listP (argP f) [] (advP (advP s))).2≤_ at l3
  refine ⟨.call _ _ hok l1 fun a ha=>(l2 a ha).1,?_,?_⟩
  ·rw [deepR_at (by rw [rank_call];omega),deepE_call]
   show maxL _≤n
   rw [maxL_le]
   intro d hd
   obtain ⟨a,ha,rfl⟩:=List.mem_map.1 hd
   exact (l2 a ha).2
  ·rw [heavyR_at (by rw [rank_call];omega),heavyE_call]
   omega
 ·rw [if_neg hc] at e ⊢
  refine ⟨.col _ hok,?_,?_⟩
  ·rw [deepR_at (by rw [rank_col];omega),deepE_col];omega
  ·rw [heavyR_at (by rw [rank_col];omega),heavyE_col]
   show (peekP s).t.length+1+Wt (advP s)≤Wt s
   omega
theorem ng_prim {f g:PE} {n:Nat} (hg:∀ s,AllOk s→(g s).2.e=0→0 < n∧heavyE (g s).1+4+Wt (g s).2≤Wt s):Ng n 0 (primP f g):=fun s a e p hn=>by
 unfold primP at e p ⊢
 by_cases h2:(peekP s).k=2
 ·rw [if_pos h2] at p
  exact absurd ⟨h2,p.2.2⟩ hn
 rw [if_neg h2] at e p ⊢
 by_cases h3:(peekP s).k=3
 ·rw [if_pos h3] at p
  exact absurd p.2.1 (by show ¬ (2:Int)=1;decide)
 rw [if_neg h3] at e p ⊢
 by_cases hnl:isP s sNull=true
 ·rw [if_pos hnl] at p
  exact absurd p.2.1 (by show ¬ (0:Int)=1;decide)
 rw [if_neg hnl] at e p ⊢
 by_cases hp:isP s [40]=true
 ·rw [if_pos hp] at e ⊢
  exact hg s a e
 rw [if_neg hp] at e p ⊢
 split at p
 ·exact absurd p.1 (by show ¬ (0:Int)=2;decide)
 split at p
 ·exact absurd p.1 (by simp [callE,Ex.k])
 ·exact absurd p.1 (by simp [columnE,Ex.k])
theorem posC_deep {x:Ex} (h:OkE x) (p:posC x):deepE x=0:=by
 cases h with
 | col=>exact deepE_col _
 | null=>exact deepE_const _
 | num=>exact deepE_const _
 | txt=>exact deepE_const _
 | not a h=>exact absurd p.1 (by simp [unaryE,Ex.k])
 | neg a h=>exact absurd p.1 (by simp [unaryE,Ex.k])
 | bin=>exact absurd p.1 (by simp [binaryE,Ex.k])
 | call=>exact absurd p.1 (by simp [callE,Ex.k])
theorem rd_minus {f g:PE} {n:Nat} (hf:Rd 7 n 1 f) (hn:Ng n 1 f) (hg:Rd 8 n 0 g):Rd 7 n 0 (minusP f g):=fun s a e=>by
 unfold minusP at e ⊢
 by_cases h:isP s [45]=true
 ·rw [if_pos h] at e ⊢
  have hw:=wt_is h
  rw [show [(45:UInt8)].length=1 from rfl] at hw
  have ga:=goes_adv_is h
  by_cases h2:(peekP (advP s)).k=2∧0 < (peekP (advP s)).n
  ·rw [if_pos h2] at e ⊢
   have hk:(peekP (advP s)).k≠0:=by rw [h2.1];decide
   obtain ⟨t1,t2,t3⟩:=tok_num (peek_ok (ga.all a) hk) h2.1
   have hw2:=wt_adv hk
   rw [sh_num h2.1] at hw2
   refine const_rd 7 (by omega) _ (.num _ (by omega) (by omega)) ?_ n
   unfold constW
   rw [if_pos rfl,if_pos (by show -(peekP (advP s)).n < 0;omega)]
   show (Lib.itoa (- -(peekP (advP s)).n)).length+3+Wt (advP (advP s))≤Wt s
   rw [Int.neg_neg]
   omega
  ·rw [if_neg h2] at e ⊢
   simp only at e ⊢
   obtain ⟨o1,o2,o3⟩:=hf (advP s) (ga.all a) e
   have hN:=hn (advP s) (ga.all a) e
   refine ⟨.neg _ o1,?_,?_⟩
   ·rw [deepR_at (by rw [rank_neg];omega),deepE_neg]
    unfold miD
    split
    ·rename_i hp
     have:=(hN hp h2).1
     have h0:deepE (f (advP s)).1=0:=posC_deep o1 hp
     simp only
     omega
    ·show wiD 7 ((f (advP s)).1,deepE (f (advP s)).1)+1+0≤n
     change deepR 7 (f (advP s)).1+1+0≤n
     omega
   ·rw [heavyR_at (by rw [rank_neg];omega),heavyE_neg]
    unfold miW
    split
    ·rename_i hp
     have:=(hN hp h2).2
     simp only
     omega
    ·change heavyR 7 (f (advP s)).1+2+Wt (f (advP s)).2≤Wt s
     omega
 ·rw [if_neg h] at e ⊢
  exact hg.weak (by omega) s a e
theorem ng_minus {f g:PE} {n:Nat} (hg:Ng n 0 g):Ng n 0 (minusP f g):=fun s a e p hn=>by
 unfold minusP at e p ⊢
 by_cases h:isP s [45]=true
 ·rw [if_pos h] at p
  exfalso
  split at p
  ·rename_i h2
   have:=p.2.2
   revert this
   show ¬ 0 < -(peekP (advP s)).n
   omega
  ·exact absurd p.1 (by simp [unaryE,Ex.k])
 ·rw [if_neg h] at e p ⊢
  exact hg s a e p hn
theorem rd_paren {f:PE} {n:Nat} (hf:Rd 1 n 0 f) (hF:GoesE f):∀ s,AllOk s→(parenP f s).2.e=0→OkE (parenP f s).1∧deepE (parenP f s).1≤n∧heavyE (parenP f s).1+4+Wt (parenP f s).2≤Wt s:=fun s a e=>by
 unfold parenP at e ⊢
 simp only at e ⊢
 obtain ⟨w1,w2⟩:=want_ok e
 rw [w2] at e ⊢
 have e2:=(isP_some w1).1
 have e3:=(hF (wantP [40] s)).back e2
 obtain ⟨v1,v2⟩:=want_ok e3
 rw [v2] at w1 e2 ⊢
 have hw1:=wt_is v1
 have hw2:=wt_is w1
 rw [show [(40:UInt8)].length=1 from rfl] at hw1
 rw [show [(41:UInt8)].length=1 from rfl] at hw2
 obtain ⟨o1,o2,o3⟩:=hf (advP s) ((goes_adv_is v1).all a) e2
 have hd:=(deepR_le 1 (f (advP s)).1).1
 have hh:=(heavyR_le 1 (f (advP s)).1).1
 exact ⟨o1,by omega,by omega⟩
structure RdD (n:Nat) (D:Dp):Prop where
 dor:Rd 1 n 1 D.dor
 dnot:Rd 3 n 1 D.dnot
 dminus:Rd 7 n 1 D.dminus
 ng:Ng n 1 D.dminus
 dparen:Rd 8 n 0 D.dparen
 pg:∀ s,AllOk s→(D.dparen s).2.e=0→0 < n∧heavyE (D.dparen s).1+4+Wt (D.dparen s).2≤Wt s
theorem RdD.mng {D:Dp} {n:Nat} (h:RdD n D):Ng n 0 (mnL D):=ng_minus (ng_prim h.pg)
section
variable {D:Dp} {n:Nat} (g:GoesD D) (h:RdD n D)
include g h
theorem RdD.pr:Rd 8 n 0 (prL D):=rd_prim h.dor g.dor h.dparen
theorem RdD.mn:Rd 7 n 0 (mnL D):=rd_minus h.dminus h.ng (h.pr g)
theorem RdD.pd:Rd 6 n 0 (pdL D):=rd_chain (h.mn g) g.mn (by decide) (by decide) (by decide)
theorem RdD.sm:Rd 5 n 0 (smL D):=rd_chain (h.pd g) g.pd (by decide) (by decide) (by decide)
theorem RdD.cm:Rd 4 n 0 (cmL D):=rd_compare (h.sm g) g.sm
theorem RdD.nt:Rd 3 n 0 (ntL D):=rd_not h.dnot (h.cm g)
theorem RdD.an:Rd 2 n 0 (anL D):=rd_chain (h.nt g) g.nt (by decide) (by decide) (by decide)
theorem RdD.or:Rd 1 n 0 (orL D):=rd_chain (h.an g) g.an (by decide) (by decide) (by decide)
end
theorem rd_deep (r m:Nat):Rd r 0 m tooDeep:=fun s a e=>absurd e (fail_ok (by decide))
theorem rd_deepN:∀ n,RdD n (deepN n)
 | 0=>⟨rd_deep _ _,rd_deep _ _,rd_deep _ _,fun s a e=>absurd e (fail_ok (by decide)),rd_deep _ _,fun s a e=>absurd e (fail_ok (by decide))⟩
 | n+1=>by
  have g:=goes_deepN n
  have h:=rd_deepN n
  have hp:=rd_paren (h.or g) g.or
  refine ⟨fun s a e=>?_,fun s a e=>?_,fun s a e=>?_,fun s a e p hn=>?_,fun s a e=>?_,fun s a e=>?_⟩
  ·obtain ⟨h1,h2,h3⟩:=h.or g s a e
   exact ⟨h1,by show deepR 1 (orL (deepN n) s).1+1≤n+1;omega,h3⟩
  ·obtain ⟨h1,h2,h3⟩:=h.nt g s a e
   exact ⟨h1,by show deepR 3 (ntL (deepN n) s).1+1≤n+1;omega,h3⟩
  ·obtain ⟨h1,h2,h3⟩:=h.mn g s a e
   exact ⟨h1,by show deepR 7 (mnL (deepN n) s).1+1≤n+1;omega,h3⟩
  ·obtain ⟨h1,h2⟩:=h.mng s a e p hn
   exact ⟨by omega,h2⟩
  ·obtain ⟨h1,h2,h3⟩:=hp s a e
   have d:=(deepR_le 8 (parenP (orL (deepN n)) s).1).2
   have w:=(heavyR_le 8 (parenP (orL (deepN n)) s).1).2
   exact ⟨h1,by show deepR 8 (parenP (orL (deepN n)) s).1+0≤n+1;omega,by show heavyR 8 (parenP (orL (deepN n)) s).1+Wt (parenP (orL (deepN n)) s).2≤Wt s;omega⟩
  ·obtain ⟨h1,h2,h3⟩:=hp s a e
   exact ⟨by omega,h3⟩
theorem whole_rd (s:Ps) (a:AllOk s) (e:(wholeP s).2.e=0):OkE (wholeP s).1∧deepE (wholeP s).1+1≤32∧heavyE (wholeP s).1+Wt (wholeP s).2≤Wt s:=by
 obtain ⟨h1,h2,h3⟩:=(rd_deepN 32).dor s a e
 have d:=(deepR_le 1 (wholeP s).1).1
 have w:=(heavyR_le 1 (wholeP s).1).1
 exact ⟨h1,by show deepE ((deepN 32).dor s).1+1≤32;have:deepE ((deepN 32).dor s).1≤deepR 1 ((deepN 32).dor s).1:=(deepR_le 1 _).1;omega,by show heavyE ((deepN 32).dor s).1+Wt ((deepN 32).dor s).2≤Wt s;have:heavyE ((deepN 32).dor s).1≤heavyR 1 ((deepN 32).dor s).1:=(heavyR_le 1 _).1;omega⟩
end Go.Proofs.YtonkjhmkppeagaaGreatDoor.Pz
namespace Go.Proofs.YtonkjhmkppeagaaGreatDoor.Lx
open Go Go.RowKit Ba
abbrev Tk:=Int × List UInt8 × Int
def tri (t:Tok):Tk:=(t.k,t.t,t.n)
def Fits (t:Tok) (y:List UInt8):Prop :=
 ∀ c,y.head?=some c→(t.k=1→wordB c=false)∧(t.k=2→digB c=false)∧(t.k=4→t.t=[60]∨t.t=[62]→c≠61)
theorem runN_head {f:UInt8→Bool} {l y:List UInt8} (h:l.all f=true) (hy:∀ c,y.head?=some c→f c=false):runN f (l++y)=l.length:=runN_app f l y h hy
theorem signN_head {a:UInt8} {l y:List UInt8} (hm:(a::l) ∈ sgL) (hy:∀ c,y.head?=some c→(a::l)=[60]∨(a::l)=[62]→c≠61):signN (a::l++y)=(a::l).length:=by
 cases y with
 | nil=>rw [List.append_nil];obtain ⟨a',l',e,_,_,_,_,f5⟩:=sg_facts _ hm;rw [e];exact f5
 | cons c y =>
  have hc:=hy c rfl
  obtain ⟨a',l',e,_,_,_,_,f5⟩:=sg_facts _ hm
  rw [← e] at f5
  cases l with
  | nil =>
   show (if sign2B a c=true then 2 else if a ∈ sign1L then 1 else 0)=1
   have h1:a ∈ sign1L:=by
    have f5':(if a ∈ sign1L then 1 else 0)=1:=f5
    apply Classical.byContradiction;intro hn
    rw [if_neg hn] at f5';cases f5'
   have h2:sign2B a c=false:=by
    unfold sign2B
    rw [decide_eq_false_iff_not]
    rintro (⟨e1,e2⟩|⟨e1,e2⟩|⟨e1,e2⟩|⟨e1,e2⟩)
    ·subst e1;revert h1;decide
    ·subst e1;exact hc (.inl rfl) e2
    ·subst e1;exact hc (.inr rfl) e2
    ·subst e1;revert h1;decide
   rw [h2,if_neg (by decide),if_pos h1]
  | cons b l =>
   have:signN (a::b::l++c::y)=signN (a::b::l):=rfl
   rw [this];exact f5
theorem tok1_fit {t:Tok} (h:TokOk t) {y:List UInt8} (hy:Fits t y):(∃ b r,sh t=b::r∧tokB b=true)∧tok1 (sh t++y)=.ok t.k t.t t.n (sh t).length:=by
 have hh:=(tok1_sh h (c:=32) (by decide) []).1
 refine ⟨hh,?_⟩
 obtain ⟨k,tt,n,p⟩:=t
 rcases h with ⟨hk,hn,⟨b,r,ht,hb⟩,hall,h16⟩|⟨hk,ht,h0,h1⟩|⟨hk,hn,h64,hp⟩|⟨hk,hn,hm⟩
 ·simp only at hk hn ht hall h16
  subst hk hn ht
  have e:sh ⟨1,b::r,0,p⟩=b::r:=rfl
  rw [e]
  have hr:runN wordB (b::r++y)=(b::r).length:=runN_head hall fun c hc=>(hy c hc).1 rfl
  rw [List.cons_append] at hr ⊢
  rw [tok1_cons,if_pos hb,hr,if_neg (by omega),show b::(r++y)=(b::r)++y from rfl,List.take_left' rfl]
 ·simp only at hk ht h0 h1
  subst hk ht
  obtain ⟨u,rfl⟩:∃ u:Nat,n=u:=⟨n.toNat,by omega⟩
  have e:sh ⟨2,[],(u:Int),p⟩=Lib.decDigits u:=by
   show (if (2:Int)=2 then Lib.itoa (u:Int) else _)=_
   rw [if_pos rfl,Lib.itoa_nonneg]
  rw [e]
  obtain ⟨b,r,hd,hdb⟩:=Nu.dec_cons u
  have hdb':digB b=true:=hdb
  have hall:=dec_dig u
  have hv:=dec_val u (by omega)
  have hz:¬ (b=48∧(b::r).length > 1):=by
   rintro ⟨rfl,hl⟩
   by_cases hu:1≤u
   ·obtain ⟨c',r',e',hc'⟩:=dec_head u hu
    rw [hd] at e'
    injection e' with e1 e2
    exact hc' e1.symm
   ·obtain rfl:u=0:=by omega
    have:Lib.decDigits 0=[48]:=by decide +kernel
    rw [this] at hd
    injection hd with _ e2
    subst e2
    simp at hl
  rw [hd] at hall hv ⊢
  have hr:runN digB (b::r++y)=(b::r).length:=runN_head hall fun c hc=>(hy c hc).2.1 rfl
  have hlb:letB b=false:=by
   unfold digB at hdb'
   rw [decide_eq_true_eq] at hdb'
   unfold letB
   rw [decide_eq_false_iff_not]
   omega
  rw [List.cons_append] at hr ⊢
  rw [tok1_cons,if_neg (by rw [hlb];decide),if_pos hdb',hr,if_neg hz,show b::(r++y)=(b::r)++y from rfl,List.take_left' rfl,hv,if_pos (by omega)]
 ·simp only at hk hn h64 hp
  subst hk hn
  have e:sh ⟨3,tt,0,p⟩=Va.quotedL tt:=by
   show (if (3:Int)=2 then _ else if (3:Int)=3 then Va.quotedL tt else _)=_
   rw [if_neg (by decide),if_pos rfl]
  rw [e]
  have hq:qTok (Va.esc tt++[34]++y)=some (tt,(Va.esc tt).length+1+1):=by
   unfold qTok
   rw [List.append_assoc,show [34]++y=34::y from rfl,rdQ_esc tt y hp]
   simp only
   rw [if_pos h64]
  unfold Va.quotedL
  rw [show (34::Va.esc tt++[34])++y=34::(Va.esc tt++[34]++y) from rfl,tok1_cons,if_neg (by decide),if_neg (by decide),if_pos rfl,hq]
  simp
 ·simp only at hk hn hm
  subst hk hn
  have e:sh ⟨4,tt,0,p⟩=tt:=by
   show (if (4:Int)=2 then _ else if (4:Int)=3 then _ else tt)=_
   rw [if_neg (by decide),if_neg (by decide)]
  rw [e]
  obtain ⟨a,l,rfl,f1,f2,f3,f4,f5⟩:=sg_facts tt hm
  have hs:=signN_head (y:=y) hm fun c hc=>(hy c hc).2.2 rfl
  rw [List.cons_append] at hs ⊢
  rw [tok1_cons,if_neg (by rw [f1];decide),if_neg (by rw [f2];decide),if_neg f3,hs,if_neg (by simp),show a::(l++y)=(a::l)++y from rfl,List.take_left' rfl]
def RdT (l:List UInt8) (ts:List Tk):Prop:=∀ p,∃ ts' q,lexL l p=(ts',q,0)∧ts'.map tri=ts
theorem RdT.nil:RdT [] []:=fun p=>⟨[],p,lex_nil p,rfl⟩
theorem RdT.ws {c:UInt8} {l:List UInt8} {ts:List Tk} (hc:wsB c=true) (h:RdT l ts):RdT (c::l) ts:=fun p=>by
 obtain ⟨ts',q,e,hs⟩:=h (p+1)
 exact ⟨ts',q,by rw [lex_ws hc];exact e,hs⟩
theorem RdT.tok {t:Tok} {l:List UInt8} {ts:List Tk} (ht:TokOk t) (hf:Fits t l) (h:RdT l ts):RdT (sh t++l) (tri t::ts):=fun p=>by
 obtain ⟨ts',q,e,hs⟩:=h (p+(sh t).length)
 obtain ⟨⟨b,r,e1,hb⟩,h1⟩:=tok1_fit ht hf
 refine ⟨⟨t.k,t.t,t.n,p⟩::ts',q,?_,by rw [List.map_cons,hs];rfl⟩
 rw [e1] at h1 e ⊢
 rw [List.cons_append] at h1 ⊢
 rw [lex_ok hb h1 (by simp),show b::(r++l)=(b::r)++l from rfl,List.drop_left' rfl,e]
 rfl
def Cl (l:List UInt8):Prop:=∀ c,l.head?=some c→wordB c=false∧c≠61
theorem Cl.nil:Cl []:=fun c h=>by cases h
theorem Cl.cons {c:UInt8} {l:List UInt8} (h:wordB c=false) (h2:c≠61):Cl (c::l):=fun c' h'=>by cases h';exact ⟨h,h2⟩
theorem fits_sign {x:List UInt8} {p:Nat} (h1:x≠[60]) (h2:x≠[62]) (l:List UInt8):Fits ⟨4,x,0,p⟩ l:=fun c _=>⟨fun h=>absurd h (by show ¬ (4:Int)=1;decide),fun h=>absurd h (by show ¬ (4:Int)=2;decide),fun _ h=>by rcases h with h|h;exact absurd h h1;exact absurd h h2⟩
theorem RdT.sign {x l:List UInt8} {ts:List Tk} (hx:x ∈ sgL) (h1:x≠[60]) (h2:x≠[62]) (h:RdT l ts):RdT (x++l) ((4,x,0)::ts) :=
 RdT.tok (t:=⟨4,x,0,0⟩) (.inr (.inr (.inr ⟨rfl,rfl,hx⟩))) (fits_sign h1 h2 l) h
theorem RdT.num {n:Int} {l:List UInt8} {ts:List Tk} (h0:0≤n) (h1:n≤9223372036854775807) (hl:∀ c,l.head?=some c→digB c=false) (h:RdT l ts):RdT (Lib.itoa n++l) ((2,[],n)::ts) :=
 RdT.tok (t:=⟨2,[],n,0⟩) (.inr (.inl ⟨rfl,rfl,h0,h1⟩)) (fun c hc=>⟨fun h=>absurd h (by show ¬ (2:Int)=1;decide),fun _=>hl c hc,fun h=>absurd h (by show ¬ (2:Int)=4;decide)⟩) h
end Go.Proofs.YtonkjhmkppeagaaGreatDoor.Lx
namespace Go.Proofs.YtonkjhmkppeagaaGreatDoor.Pz
open Go Go.RowKit Lx
def wiK (least:Nat) (p:Ex × List Tk):List Tk:=if rankE p.1 < least then (4,[40],0)::(p.2++[(4,[41],0)]) else p.2
def miK (p:Ex × List Tk):List Tk:=if posC p.1 then (4,[40],0)::(p.2++[(4,[41],0)]) else wiK 7 p
def joinK:List (List Tk)→List Tk
 | []=>[]
 | [a]=>a
 | a::b::r=>a++((4,[44],0)::joinK (b::r))
def constK (v:Vl):List Tk:=if v.k=1 then (if v.n < 0 then [(4,[45],0),(2,[],-v.n)] else [(2,[],v.n)]) else if v.k=2 then [(3,v.t,0)] else [(1,sNull,0)]
def opK (op:Str):Tk:=(if op=sOr∨op=sAnd then 1 else 4,op,0)
def tkF (k:Int) (nm:Str) (v:Vl) (op:Str) (l:List (Ex × List Tk)):List Tk :=
 if k=1 then [(1,nm,0)] else if k=2 then constK v
 else if k=3 then (match l with|[p]=>if op=sNot then (1,sNot,0)::wiK 3 p else (4,[45],0)::miK p|_=>[])
 else if k=4 then (match l with|[p,q]=>wiK (leftR op) p++(opK op::wiK (rankOp op+1) q)|_=>[])
 else if k=5 then (1,nm,0)::(4,[40],0)::(joinK (l.map (·.2))++[(4,[41],0)]) else []
def tkE:Ex→List Tk:=foldE tkF
def plK (least:Nat) (x:Ex):List Tk:=wiK least (x,tkE x)
def At (s:Ps) (ts:List Tk):Prop:=s.e=0∧(s.T.drop s.i).map tri=ts
def advN (s:Ps) (m:Nat):Ps:={ s with i:=s.i+m }
theorem At.peek {s:Ps} {h:Tk} {r:List Tk} (a:At s (h::r)):tri (peekP s)=h∧At (advP s) r∧s.i < s.T.length:=by
 obtain ⟨h1,h2⟩:=a
 have hi:s.i < s.T.length:=by
  apply Classical.byContradiction;intro hn
  rw [List.drop_eq_nil_of_le (by omega)] at h2
  cases h2
 rw [List.drop_eq_getElem_cons hi,List.map_cons] at h2
 obtain ⟨e1,e2⟩:=List.cons.inj h2
 exact ⟨by rw [peek_at h1 (List.getElem?_eq_getElem hi)];exact e1,⟨h1,e2⟩,hi⟩
theorem At.app {s:Ps}:∀ {a b:List Tk},At s (a++b)→At (advN s a.length) b:=by
 intro a b h
 obtain ⟨h1,h2⟩:=h
 refine ⟨h1,?_⟩
 show (s.T.drop (s.i+a.length)).map tri=b
 rw [← List.drop_drop,List.map_drop,h2,List.drop_left]
theorem At.nilK {s:Ps} (a:At s []):peekP s=zTok:=by
 obtain ⟨h1,h2⟩:=a
 apply peek_end
 rw [List.map_eq_nil_iff,List.drop_eq_nil_iff] at h2
 exact h2
def isK (ts:List Tk) (x:Str):Bool:=match ts with
 | []=>false
 | h::_=>decide ((h.1=1∨h.1=4)∧h.2.1=x)
theorem At.is {s:Ps} {ts:List Tk} (a:At s ts) (x:Str):isP s x=isK ts x:=by
 unfold isP
 cases ts with
 | nil =>
  rw [a.nilK]
  show decide ((zTok.k=1∨zTok.k=4)∧zTok.t=x)=false
  rw [decide_eq_false];rintro ⟨h|h,_⟩<;>revert h<;>decide
 | cons h r =>
  have:=a.peek.1
  subst this
  rfl
def stopK (r:Nat) (ts:List Tk):Prop:=∀ o,isK ts o=true→rankOp o < r∧o≠[40]
theorem stopK.mono {r r':Nat} {ts:List Tk} (h:stopK r ts) (hr:r≤r'):stopK r' ts:=fun o ho=>⟨Nat.lt_of_lt_of_le (h o ho).1 hr,(h o ho).2⟩
def lay (D:Dp):Nat→PE
 | 1=>orL D
 | 2=>anL D
 | 3=>ntL D
 | 4=>cmL D
 | 5=>smL D
 | 6=>pdL D
 | 7=>mnL D
 | _=>prL D
def opsR:Nat→List Str
 | 1=>[sOr]
 | 2=>[sAnd]
 | 5=>sumOps
 | _=>prodOps
def S1 (r:Nat) (x:Ex) (n:Nat):Prop:=∀ s rest,At s (plK r x++rest)→stopK r rest→deepR r x≤n→lay (deepN n) r s=(x,advN s (plK r x).length)
def S2 (r:Nat) (x:Ex) (n:Nat):Prop:=∀ s rest,At s (plK r x++rest)→stopK (r+1) rest→deepR r x≤n →
 ∃ f,lay (deepN n) r s=chainLoop (lay (deepN n) (r+1)) (opsR r) f x (advN s (plK r x).length)∧s.T.length < f+(s.i+(plK r x).length)
end Go.Proofs.YtonkjhmkppeagaaGreatDoor.Pz
namespace Go.Proofs.YtonkjhmkppeagaaGreatDoor.Pz
open Go Go.RowKit Lx
theorem itoa_neg' {n:Int} (h:n < 0):Lib.itoa n=45::Lib.itoa (-n):=by
 unfold Lib.itoa
 rw [if_pos h,if_neg (by omega)]
 congr 2
 omega
theorem showV_null:showV zV=sNull:=by decide +kernel
theorem showV_num (n:Int):showV ⟨1,n,[]⟩=Lib.itoa n:=by
 unfold showV Va.showL
 have:Va.rightB 1 n ⟨([]:Str).toArray⟩=true:=by unfold Va.rightB;simp
 simp only [this,if_true]
 rfl
theorem showV_txt {t:Str} (h:TokOk ⟨3,t,0,0⟩):showV ⟨2,0,t⟩=Va.quotedL t:=by
 have ht:t.length≤64∧∀ c ∈ t,32≤c.toNat∧c.toNat≤126:=by
  rcases h with ⟨h1,_⟩|⟨h1,_⟩|⟨_,_,h2,h3⟩|⟨h1,_⟩
  ·exact absurd h1 (by show ¬ (3:Int)=1;decide)
  ·exact absurd h1 (by show ¬ (3:Int)=2;decide)
  ·exact ⟨h2,h3⟩
  ·exact absurd h1 (by show ¬ (3:Int)=4;decide)
 unfold showV Va.showL
 have hr:Va.rightB 2 0 ⟨t.toArray⟩=true:=by
  unfold Va.rightB Va.plainB
  rw [if_neg (by decide),if_neg (by decide),if_pos rfl]
  simp only [Bool.and_eq_true,decide_eq_true_eq]
  refine ⟨trivial,?_,?_⟩
  ·rw [List.all_eq_true]
   intro c hc
   have:=ht.2 c (by simpa using hc)
   unfold Va.okByte
   simp;omega
  ·show t.toArray.size≤64
   simp;exact ht.1
 simp only [hr,if_true]
 rfl
end Go.Proofs.YtonkjhmkppeagaaGreatDoor.Pz
