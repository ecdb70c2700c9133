/- A slice of the call's own, to which all of another slice is appended. No function of the program in sight. More of XSt: a row that a callee hands over, to be appended to. -/
import Derived.Test.YtonkjhmkppeagaaGreatDoorTPsC
import Derived.Deep.Upon
import Derived.Test.YtonkjhmkppeagaaGreatDoorTSt
set_option linter.unusedVariables false
set_option linter.unusedSimpArgs false
namespace Go.Proofs.YtonkjhmkppeagaaGreatDoor.Pz
open Go.RowKit Go Ba
theorem run_append_all {P:Program} (w:World) (base:Nat) (t ty e:TypeId) (i:TypeInfo) (z:Value) (size bytes:Nat) (ht:P.underlying t=some (.slice e)) (hi:P.info? e=some i) (hz:i.zero=some z)
 (hsize:i.size=size) (hby:i.bytes=bytes) (hzs:z.cells.size=size) (hsz:0 < size)
 (v:Value) (n:Nat) (xs:List Value) (hown:w.ownsRow base e size v n xs)
 (a:Addr) (m c:Nat) (hm:0 < m) (news:List Value) (hl:news.length=m * size) (hnews:∀ j u,news[j]?=some u→w.cell? (a.add j)=some u) (h1:∀ u ∈ news,u.oneCell'=true)
 (h63:n+m≤maxLen) (hbytes:(n+m) * bytes≤140737488355328) (hbase:base≤w.heap.size) :
 ∃ v' w',(Builtin.append_ #[t,t] ty #[v,.slice (some a) m c]).run P w=.ok v' w'∧w'.ownsRow base e size v' (n+m) (xs++news)∧w.grownBy w' v.ownBlock ∧
  (v'.ownBlock=v.ownBlock∨∃ b,v'.ownBlock=some b∧w.heap.size≤b):=by
 obtain ⟨v',w',hr,ho,hg,_⟩:=run_append_own (P:=P) w base t ty e i z size bytes ht hi hz hsize hby hzs hsz v n xs hown a m c news hl hnews h1 h63 hbytes hbase
 refine ⟨v',w',hr,ho,hg,?_⟩
 have hfresh:∀ (k cp:Nat) (W:World),(Builtin.append_ #[t,t] ty #[v,.slice (some a) m c]).run P w=.ok (.slice (some ⟨w.heap.size,0,none⟩) k cp) W→v'.ownBlock=v.ownBlock∨∃ b,v'.ownBlock=some b∧w.heap.size≤b:=by
  intro k cp W h
  rw [hr] at h
  injection h with e1 _
  subst e1
  exact .inr ⟨_,rfl,Nat.le_refl _⟩
 have hsame:∀ (g k m' cp cp':Nat) (W:World),v=.slice (some ⟨g,0,none⟩) m' cp'→(Builtin.append_ #[t,t] ty #[v,.slice (some a) m c]).run P w=.ok (.slice (some ⟨g,0,none⟩) k cp) W→v'.ownBlock=v.ownBlock∨∃ b,v'.ownBlock=some b∧w.heap.size≤b:=by
  intro g k m' cp cp' W hv h
  rw [hr] at h
  injection h with e1 _
  subst e1 hv
  exact .inl rfl
 subst hsize hby
 unfold maxLen at h63
 rcases hown.2 with ⟨rfl,rfl⟩|⟨g,cap,cur,rfl,hbg,hgg,hnc,hcm,hcs,htake⟩
 ·exact hfresh _ _ _ (run_append_nil (P:=P) w t ty e i z ht hi hz a m c news hl hnews (by omega) (by omega) (by rw [Nat.zero_add] at hbytes;omega))
 ·by_cases hroom:n+m≤cap
  ·have hfit:n * i.size+news.length≤cur.size:=by rw [hl,hcs,← Nat.add_mul];exact Nat.mul_le_mul_right _ hroom
   exact hsame g _ _ _ _ _ rfl (run_append_room (P:=P) w t ty e i ht hi g n cap cur hgg a m c news hl hnews h1 hroom hfit)
  ·exact hfresh _ _ _ (run_append_grow (P:=P) w t ty e i z ht hi hz ⟨g,0,none⟩ n cap xs hown.1 (hown.cells (g:=g) rfl) a m c news hl hnews (by omega) (by omega) (growslice_fits (by omega) hbytes))
theorem flat_len {k:Nat}:∀ {xs:List (List Value)},(∀ x ∈ xs,x.length=k)→xs.flatten.length=xs.length * k
 | [],h=>by simp
 | x::xs,h=>by
  rw [List.flatten_cons,List.length_append,flat_len (fun y hy=>h y (List.mem_cons_of_mem _ hy)),h x List.mem_cons_self,List.length_cons,Nat.add_mul]
  omega
theorem flat_at {k:Nat}:∀ {xs:List (List Value)},(∀ x ∈ xs,x.length=k)→∀ {j:Nat} {u:Value},xs.flatten[j]?=some u→∃ i r cs,j=i * k+r∧r < k∧xs[i]?=some cs∧cs[r]?=some u
 | [],h,j,u,hj=>by simp at hj
 | x::xs,h,j,u,hj=>by
  have hx:=h x List.mem_cons_self
  rw [List.flatten_cons,List.getElem?_append] at hj
  split at hj
  ·rename_i hlt
   exact ⟨0,j,x,by omega,by omega,rfl,hj⟩
  ·rename_i hge
   obtain ⟨i,r,cs,e1,e2,e3,e4⟩:=flat_at (fun y hy=>h y (List.mem_cons_of_mem _ hy)) hj
   refine ⟨i+1,r,cs,?_,e2,by simpa using e3,e4⟩
   rw [Nat.add_mul];omega
theorem Own.more {P:Program} {W:World} {base:Nat} {e:TypeId} {k:Nat} {v:Value} {rows:List (List Dat)} {cells:List (List Value)} (h:Own W base e k v rows cells) (t ty:TypeId) {i:TypeInfo} {z:Value} (ht:P.underlying t=some (.slice e)) (hi:P.info? e=some i) (hz:i.zero=some z)
 (hsize:i.size=k) (hzs:z.cells.size=k) (hk:0 < k) (hby:i.bytes≤1000) {okf:Nat→Prop} {rows2:List (List Dat)} {u:Value} (hf:Rep W okf (.sl k rows2) u) (hok:∀ b,b < W.heap.size→okf b→base≤b∧v.ownBlock≠some b) (hn:rows.length+rows2.length≤1000000) (hbase:base≤W.heap.size) :
 ∃ v' W' cells',(Builtin.append_ #[t,t] ty #[v,u]).run P W=.ok v' W'∧Own W' base e k v' (rows++rows2) cells'∧Kept (fun b=>v.ownBlock=some b) W W':=by
 cases hf with
 | sl _ _ ao cap fcells h1 h2 hl hn' hc hr =>
  have hcl:∀ x ∈ fcells,x.length=k:=fun x hx=>by
   obtain ⟨j,hj⟩:=List.mem_iff_getElem?.1 hx
   have hlt:=(List.getElem?_eq_some_iff.1 hj).1
   exact (hn' j _ x (List.getElem?_eq_getElem (by rw [← hl];exact hlt)) hj).2
  by_cases h0:rows2=[]
  ·subst h0
   have hf0:fcells=[]:=List.eq_nil_of_length_eq_zero hl
   subst hf0
   have hsrc:Src P i.size t (.slice ao 0 cap) 0 [] W:=by
    cases ao with
    | none=>exact ⟨.inl ⟨e,ht⟩,fun _=>rfl,by simp [Builtin.firstCells],by simp [Builtin.firstCells],by simp,fun u hu=>by cases hu⟩
    | some a=>exact Src.ofSlice W ht a 0 cap [] (by simp) (fun j u hj=>by simp at hj) (fun u hu=>by cases hu)
   rw [List.append_nil]
   rcases h.own.2 with ⟨rfl,hz0⟩|⟨g,c,cur,rfl,_,_,hnc,_⟩
   ·exact ⟨_,W,cells,run_append_nothing W t t ty e i ht hi none 0 0 (Nat.le_refl _) _ hsrc,h,Kept.refl _ _⟩
   ·exact ⟨_,W,cells,run_append_nothing W t t ty e i ht hi _ _ _ hnc _ hsrc,h,Kept.refl _ _⟩
  ·have hpos:0 < rows2.length:=List.length_pos_iff.2 h0
   obtain ⟨b,o,rfl⟩:∃ b o,ao=some ⟨b,o,none⟩:=by
    obtain ⟨b,o,e1,_⟩:=hc 0 _ (List.getElem?_eq_getElem (by rw [hl];exact hpos))
    exact ⟨b,o,e1⟩
   have hall:∀ x ∈ fcells.flatten,x.oneCell'=true:=fun x hx=>by
    obtain ⟨j,hj⟩:=List.mem_iff_getElem?.1 hx
    obtain ⟨i',r,cs,_,hrk,e3,e4⟩:=flat_at hcl hj
    have hil:=(List.getElem?_eq_some_iff.1 e3).1
    have hrw:rows2[i']?=some (rows2[i']'(by rw [← hl];exact hil)):=List.getElem?_eq_getElem _
    obtain ⟨n1,n2⟩:=hn' i' _ cs hrw e3
    exact (hr i' _ cs r _ x hrw e3 (List.getElem?_eq_getElem (by rw [n1];exact hrk)) e4).one
   obtain ⟨v',W',hrun,h3,h4,h5⟩:=run_append_all (P:=P) W base t ty e i z k i.bytes ht hi hz hsize rfl hzs hk v rows.length cells.flatten h.own ⟨b,o,none⟩ rows2.length cap hpos fcells.flatten (by rw [flat_len hcl,hl]) (fun j x hj=>by
    obtain ⟨i',r,cs,rfl,hrk,e3,e4⟩:=flat_at hcl hj
    obtain ⟨b',o',e5,_,_,e6⟩:=hc i' cs e3
    obtain ⟨rfl,rfl⟩:b=b'∧o=o':=by simpa using e5
    have e7:(⟨b,o,none⟩:Addr).add (i' * k+r)=⟨b,o+(i' * k+r),none⟩:=Addr.add_mid _ _ _
    rw [e7,e6 r hrk];exact e4) hall (by unfold maxLen;omega) (by
     have:(rows.length+rows2.length) * i.bytes≤1000000 * 1000:=Nat.mul_le_mul hn hby
     omega) hbase
   have hK:Kept (fun b=>v.ownBlock=some b) W W':=(Kept.refl _ W).grown h4 fun b hb=>.inl hb
   refine ⟨v',W',cells++fcells,hrun,⟨by rw [List.length_append,List.flatten_append];exact h3,by rw [List.length_append,List.length_append,h.len,hl],fun j r cs hj hcj=>?_⟩,hK⟩
   have hne:∀ b,b < W.heap.size→base≤b∧v.ownBlock≠some b→base≤b∧v'.ownBlock≠some b:=fun b hb hx=>⟨hx.1,fun e'=>by
    rcases h5 with e|⟨g,e,hg⟩
    ·rw [e] at e';exact hx.2 e'
    ·rw [e] at e';cases e';omega⟩
   by_cases hlt:j < rows.length
   ·rw [List.getElem?_append_left hlt] at hj
    rw [List.getElem?_append_left (by rw [h.len];exact hlt)] at hcj
    obtain ⟨q1,q2⟩:=h.row j r cs hj hcj
    exact ⟨q1,q2.both hK (fun b _ hx=>hx.2) hne⟩
   ·rw [List.getElem?_append_right (by omega)] at hj
    rw [List.getElem?_append_right (by rw [h.len];omega),h.len] at hcj
    obtain ⟨n1,n2⟩:=hn' _ r cs hj hcj
    have hrow:Row W okf r cs:=⟨n1.trans n2.symm,fun j' d c hd hc'=>hr _ r cs j' d c hj hcj hd hc'⟩
    exact ⟨n1,hrow.both hK (fun b hb hx=>(hok b hb hx).2) (fun b hb hx=>hne b hb (hok b hb hx))⟩
end Go.Proofs.YtonkjhmkppeagaaGreatDoor.Pz
namespace Go.Proofs.YtonkjhmkppeagaaGreatDoor.Pz
open Go.RowKit Go Ba Lx
theorem okL_adopt {w0 w:World} {L:List Bx} {O:List Ow} {x:Ow} (hx:∀ b,x.v.ownBlock=some b→w.heap.size≤b) {b:Nat} (hb:b < w.heap.size) (h:okL w0.heap.size L O b):okL w0.heap.size L (x::O) b :=
 ⟨h.1,h.2.1,fun y hy e=>by
  rcases List.mem_cons.1 hy with rfl|hy
  ·have:=hx b e;omega
  ·exact h.2.2 y hy e⟩
theorem St.adopt {S:Nat→Prop} {w0 w w':World} {L:List Bx} {D:List (List Dat × List Value)} {O:List Ow} (h:St S w0 w L D O) (g:Below w.heap.size w w') {T:TypeId} {k:Nat} {v:Value} {rows:List (List Dat)} {cells:List (List Value)} (ho:Own w' w.heap.size T k v rows cells) :
 St S w0 w' L D (⟨T,k,v,rows,cells⟩::O):=by
 have h':=h.below g
 have hv:∀ b,v.ownBlock=some b→w.heap.size≤b:=fun b hb=>(ho.lt b hb).1
 have hsz:=h.kept.size
 have hK:Kept (fun _=>False) w w':=Kept.of_below g
 refine ⟨h'.kept,h'.box,h'.new,h'.nd,fun q hq=>(h.dat q hq).both hK (fun _ _ _ x=>x) (fun b hb hx=>okL_adopt (x:=⟨T,k,v,rows,cells⟩) hv hb hx),fun y hy=>?_,fun y hy=>?_,fun y hy i r cs hr hc=>?_,fun y hy b hb p hp=>?_,?_⟩
 ·rcases List.mem_cons.1 hy with rfl|hy
  ·exact ⟨ho.own.1,ho.own.2.imp id fun ⟨g',c,cur,q1,q2,q⟩=>⟨g',c,cur,q1,Nat.le_trans hsz q2,q⟩⟩
  ·exact h'.own y hy
 ·rcases List.mem_cons.1 hy with rfl|hy
  ·exact ho.len
  ·exact h'.len y hy
 ·rcases List.mem_cons.1 hy with rfl|hy
  ·obtain ⟨q1,q2⟩:=ho.row i r cs hr hc
   refine ⟨q1,q2.weak fun b _ hx=>⟨Nat.le_trans hsz hx.1,fun p hp e=>?_,fun z hz e=>?_⟩⟩
   ·have:=(h.box p hp).lt
    have:=hx.1;omega
   ·rcases List.mem_cons.1 hz with rfl|hz
    ·exact hx.2 e
    ·have:=((h.own z hz).lt b e).2
     have:=hx.1;omega
  ·obtain ⟨q1,q2⟩:=h.row y hy i r cs hr hc
   exact ⟨q1,q2.both hK (fun _ _ _ x=>x) (fun b hb hx=>okL_adopt (x:=⟨T,k,v,rows,cells⟩) hv hb hx)⟩
 ·rcases List.mem_cons.1 hy with rfl|hy
  ·have h1:=hv b hb
   have h2:=(h.box p hp).lt
   omega
  ·exact h'.out y hy b hb p hp
 ·refine List.pairwise_cons.2 ⟨fun y hy b hb e=>?_,h.sep⟩
  have h1:=hv b hb
  have h2:=((h.own y hy).lt b e).2
  omega
theorem St.toOwn {S:Nat→Prop} {w0 w:World} {L:List Bx} {D:List (List Dat × List Value)} {O:List Ow} (h:St S w0 w L D O) {i:Nat} {x:Ow} (hi:O[i]?=some x):Own w w0.heap.size x.T x.k x.v x.rows x.cells :=
 ⟨h.own x (List.mem_of_getElem? hi),h.len x (List.mem_of_getElem? hi),fun j r cs hr hc=>⟨(h.row x (List.mem_of_getElem? hi) j r cs hr hc).1,(h.row x (List.mem_of_getElem? hi) j r cs hr hc).2.weak fun b _ hb=>⟨hb.1,hb.2.2 x (List.mem_of_getElem? hi)⟩⟩⟩
end Go.Proofs.YtonkjhmkppeagaaGreatDoor.Pz
