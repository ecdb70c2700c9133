/- Small facts that all walks use: worlds that grow, quiet calls, bytes of a string as a slice and back. No function of the program in sight. A region that draws its order and holds calls that make memory: walked once, in the order of the text. Small laws on the worlds of such a region. A block of known cells, from world to world. Slices read: a value that is a slice of things of some cells, wherever it lies; kept behind whatever only lays new blocks. A region that draws its order: the condition on the world may be made stronger on the way. A region that draws its order and whose last operation writes a cell that the region reads: the condition on the world need hold only until that operation has come up. -/
import Derived.Test.YtonkjhmkppeagaaGreatDoorProg
import Derived.WalkKit
import Derived.ProofKit
import Derived.WalkLawsBesides
import Derived.WalkSpells
import Derived.WalkSmall
import Derived.Handy
import Derived.Lib.Hide
import Derived.Lib.ConvBytes
import Derived.Lib.AppendIntMem
import Derived.Lib.ItoaLen
import Derived.Lib.AtoiErrMem
import Derived.Laws.BytesArg
import Derived.Deep.QuietTactic
import Derived.Deep.RegionHeld3
import Derived.BigQuiet
import Derived.Lib.QuietBelow
set_option linter.unusedVariables false
set_option linter.unusedSimpArgs false
namespace Go.Proofs.YtonkjhmkppeagaaGreatDoor
theorem yA.{u} {α : Type u} {a b : List α} : (a ++ b).length = a.length + b.length := List.length_append
theorem yB.{u} {α : Type u} {a : α} {l : List α} : (a :: l).length = l.length + 1 := List.length_cons
theorem yC.{u,v} {α : Type u} {β : Type v} {l : List α} (f : α → β) : (l.map f).length = l.length := List.length_map f
theorem yE.{u} {α : Type u} {l : List α} {i : Nat} {a : α} : l[i]? = some a ↔ ∃ h : i < l.length, l[i] = a := List.getElem?_eq_some_iff
theorem yF.{u} {α : Type u} {l : List α} {i : Nat} (h : i < l.length) : l[i]? = some l[i] := List.getElem?_eq_getElem h
theorem yG (n : Nat) : n ≤ n := Nat.le_refl n
theorem yH {n m k : Nat} (h : n ≤ m) (g : m ≤ k) : n ≤ k := Nat.le_trans h g
theorem yI {n m : Nat} (h : Nat.ble n m = true) : n ≤ m := Nat.le_of_ble_eq_true h
theorem yJ.{u} {α : Type u} (y : α) {a : α} {l : List α} (h : a ∈ l) : a ∈ y :: l := List.mem_cons_of_mem y h
theorem yK {p : Prop} [Decidable p] : decide p = false ↔ ¬ p := decide_eq_false_iff_not
theorem yL {p : Prop} [Decidable p] : (decide p = true) = p := decide_eq_true_eq
theorem yM.{u} {α : Type u} (a b c : List α) : a ++ b ++ c = a ++ (b ++ c) := List.append_assoc a b c
theorem yN {p : Prop} [Decidable p] (h : ¬ p) : decide p = false := decide_eq_false h
theorem yP.{u} {α : Type u} {l : List α} {i : Nat} {a : α} (h : l[i]? = some a) : a ∈ l := List.mem_of_getElem? h
theorem yQ.{u,v} {α : Type u} {β : Type v} {f : α → β} {l : List α} {i : Nat} : (l.map f)[i]? = l[i]?.map f := List.getElem?_map
theorem yS (n : Nat) : 0 ≤ n := Nat.zero_le n
theorem yT.{u} {α : Type u} [BEq α] [LawfulBEq α] {a b : α} : (a == b) = false ↔ a ≠ b := beq_eq_false_iff_ne
theorem yX.{u} {α : Type u} {a : α} {l : List α} : a ∈ a :: l := List.mem_cons_self
end Go.Proofs.YtonkjhmkppeagaaGreatDoor
namespace Go.Proofs.YtonkjhmkppeagaaGreatDoor
open Go
abbrev zzP:Array Value:=#[.int .i64 0,.string ⟨#[]⟩,.slice none 0 0,.int .i64 0,.string ⟨#[]⟩,.int .i64 0,.int .i64 0,.string ⟨#[]⟩,.string ⟨#[]⟩,.slice none 0 0,.slice none 0 0,.slice none 0 0,.slice none 0 0,.slice none 0 0,.slice none 0 0,.int .i64 0]
abbrev zzQ:List Value:=[.int .i64 0,.string ⟨#[]⟩,.slice none 0 0,.int .i64 0,.string ⟨#[]⟩,.int .i64 0,.int .i64 0,.string ⟨#[]⟩,.string ⟨#[]⟩,.slice none 0 0,.slice none 0 0,.slice none 0 0,.slice none 0 0,.slice none 0 0,.slice none 0 0,.int .i64 0]
abbrev zzA:Array Value:=#[.int .i64 0,.string ⟨#[]⟩,.int .i64 0,.int .i64 0,.string ⟨#[]⟩,.string ⟨#[]⟩,.slice none 0 0]
abbrev zzL:List Value:=[.int .i64 0,.string ⟨#[]⟩,.int .i64 0,.int .i64 0,.string ⟨#[]⟩,.string ⟨#[]⟩,.slice none 0 0]
abbrev zz0:Array Value:=#[.string ⟨#[33,61]⟩,.string ⟨#[60,61]⟩,.string ⟨#[62,61]⟩,.string ⟨#[46,46]⟩,.string ⟨#[40]⟩,.string ⟨#[41]⟩,.string ⟨#[44]⟩,.string ⟨#[59]⟩,.string ⟨#[58]⟩,.string ⟨#[124]⟩,.string ⟨#[43]⟩,.string ⟨#[45]⟩,.string ⟨#[42]⟩,.string ⟨#[47]⟩,.string ⟨#[37]⟩,.string ⟨#[61]⟩,.string ⟨#[60]⟩,.string ⟨#[62]⟩]
abbrev zz1:List Value:=[.string ⟨#[119,104,101,114,101]⟩,.string ⟨#[107,101,101,112]⟩,.string ⟨#[106,111,105,110]⟩,.string ⟨#[108,101,102,116]⟩,.string ⟨#[103,114,111,117,112]⟩,.string ⟨#[117,110,105,111,110]⟩,.string ⟨#[100,105,115,116,105,110,99,116]⟩,.string ⟨#[102,105,114,115,116]⟩]
abbrev zz2:List Value:=[.string ⟨#[99,111,117,110,116]⟩,.string ⟨#[115,117,109]⟩,.string ⟨#[109,105,110]⟩,.string ⟨#[109,97,120]⟩]
abbrev zz3:List Value:=[.string ⟨#[115,97,109,101]⟩,.string ⟨#[108,97,115,116]⟩,.string ⟨#[115,104,105,102,116]⟩,.string ⟨#[119,105,116,104,105,110]⟩,.string ⟨#[97,108,108]⟩]
abbrev zz4:List Value:=[.string ⟨#[]⟩,.string ⟨#[104,111,117,114,108,121]⟩,.string ⟨#[100,97,105,108,121]⟩,.string ⟨#[119,101,101,107,108,121]⟩,.string ⟨#[109,111,110,116,104,108,121]⟩,.string ⟨#[115,116,97,116,105,99]⟩]
abbrev zz5:Array Value:=#[.string ⟨#[61]⟩,.string ⟨#[33,61]⟩,.string ⟨#[60]⟩,.string ⟨#[60,61]⟩,.string ⟨#[62]⟩,.string ⟨#[62,61]⟩]
abbrev zz6:List Value:=[.string ⟨#[]⟩,.string ⟨#[115,97,109,101]⟩,.string ⟨#[108,97,115,116]⟩,.string ⟨#[115,104,105,102,116]⟩,.string ⟨#[119,105,116,104,105,110]⟩,.string ⟨#[97,108,108]⟩]
abbrev zz7:List Value:=[.string ⟨#[115,111,117,114,99,101]⟩,.string ⟨#[97,115,115,101,116]⟩,.string ⟨#[115,99,104,101,100,117,108,101]⟩]
end Go.Proofs.YtonkjhmkppeagaaGreatDoor
namespace Go.Proofs.YtonkjhmkppeagaaGreatDoor.Ba
open Go.Proofs.Tryz
open Go.RowKit Go
theorem zrF {k:IntKind} {a b:Int} (h:a=b):Ending.returned (.int k a)=.returned (.int k b):=by rw[h]
theorem zaT {a b:Bool} (h:a=b):Ending.returned (.bool a)=.returned (.bool b):=by rw[h]
theorem zcd {a b:ByteArray} (h:a=b):Ending.returned (.string a)=.returned (.string b):=by rw[h]
theorem zb3 {w:World} {b o:Nat} {v:Value} (h:w.cell? ⟨b,o,none⟩=some v):b<w.heap.size:=World.block_lt_of_cell? _ _ h
theorem Below.drewN {B:Nat} {a w:World} (h:Below B a w) (n:Nat):Below B a (w.drewN n):=⟨h.os,h.tape,h.output,h.size,h.block⟩
theorem next {B:Nat} {w w0 w1:World} (h0:Below B w w0) (hb:Below w0.heap.size w0 w1) (hB:B≤w.heap.size):Below B w w1 :=
 h0.trans (hb.mono (yH hB h0.size))
theorem two {w w0 w1:World} (h0:Below w.heap.size w w0) (hb:Below w0.heap.size w0 w1):Below w.heap.size w w1:=next h0 hb (yG _)
theorem box {w w1:World} {cs:Array Value} {t:TypeId} {B:Nat} (hb:Below B (w.alloc (.cells cs t)) w1) (hB:w.heap.size<B) (j:Nat):w1.cell? ⟨w.heap.size,j,none⟩=cs[j]? :=
 (hb.cell (by exact hB)).trans (World.cell?_alloc_at cs t _ j rfl)
theorem zhp {w w':World} (h:∃ k os,w'=Sort.grow (w.drewN k) os):Below w.heap.size w w':=by
 obtain ⟨k,os,rfl⟩:=h;exact Lib.below_grow _ _ (yG _) _ _
theorem zeu {w:World} (e:TypeId) (s:ByteArray):∀ k b,s.data.toList[k]?=some b→(Lib.bytesWorld w e s).cell? ⟨w.heap.size,k,none⟩=some (.int .u8 b.toNat):=by
 intro k b hk;have hlt:k<s.size:=by
  have:=(yE.1 hk).1;rw[Array.length_toList]at this;exact this
 rw[Lib.bytesWorld_cell w e s k hlt];simp[List.getD,hk]
theorem bat (s:ByteArray) (k:Nat) (h:k<s.size):∃ b,s.data.toList[k]?=some b:=⟨s.data.toList[k]'(by rw[Array.length_toList];exact h),yF _⟩
theorem zau (s:ByteArray):s.size=s.data.toList.length:=by rw[Array.length_toList];rfl
def zb2 (l:List UInt8):List Value:=l.map fun b=>Value.int .u8 b.toNat
theorem zmb (l r:List UInt8):zb2 (l++r)=zb2 l++zb2 r:=by simp[zb2]
theorem zma (b:UInt8):zb2 [b]=[.int .u8 b.toNat]:=rfl
theorem zlf (l:List UInt8):(l.map fun b=>((b.toNat:Nat):Int)).map (fun n=>UInt8.ofNat n.toNat)=l:=by
 rw[List.map_map];conv=>rhs;rw[← List.map_id l]
 apply List.map_congr_left;intro b _;simp
theorem zcw {P:Program} {w:World} {base:Nat} {v:Value} {l:List UInt8} {n:Nat} (src dst e:TypeId) (hs:P.underlying src=some (.slice e)) (he:P.underlying e=some (.int .u8)) (hd:P.underlying dst=some .string)
 (hown:w.ownsRow base e 1 v n (zb2 l)) (hn:n=l.length):(convert src dst v).run P w=.ok (.string ⟨l.toArray⟩) w:=by
 subst hn;have hown':=hown;obtain ⟨h1,h2⟩:=hown;rcases h2 with ⟨rfl,h2⟩|⟨g,cap,cur,rfl,hg,hh,hrest⟩
 ·have hl:l=[]:=List.eq_nil_of_length_eq_zero h2;subst hl;rw[run_convert_bytes_nil w src e hs he 0 0 dst hd];rfl
 ·rw[run_convert_bytes_arg w src e hs he g 0 l.length cap (l.map fun b=>((b.toNat:Nat):Int)) (by simp) (fun i hi=>?_) dst hd]
  ·have e1:strOfNums (l.map fun b=>((b.toNat:Nat):Int))=⟨l.toArray⟩:=by
    unfold strOfNums;rw[zlf]
   rw[e1]
  ·have hx:(zb2 l)[i]?=some (.int .u8 (((l.map fun b=>((b.toNat:Nat):Int)).getD i 0))):=by
    simp[zb2,List.getD,hi]
   rw[Nat.zero_add];rw[hown'.cellAt i (by omega),hx]
theorem zcH {w w':World} {base:Nat} {e:TypeId} {size:Nat} {v:Value} {n:Nat} {xs:List Value} (h:w.ownsRow base e size v n xs) (hb:∀ k,v.ownBlock=some k→w'.heap[k]?=w.heap[k]?):w'.ownsRow base e size v n xs:=by
 obtain ⟨h1,h2⟩:=h;refine ⟨h1,?_⟩;rcases h2 with h2|⟨g,cap,cur,rfl,hg,hh,r⟩
 ·exact Or.inl h2
 ·exact Or.inr ⟨g,cap,cur,rfl,hg,by rw[hb g rfl];exact hh,r⟩
theorem ziI {w w':World} {base B:Nat} {e:TypeId} {size:Nat} {v:Value} {n:Nat} {xs:List Value} (h:w.ownsRow base e size v n xs) (hb:Below B w w') (hB:w.heap.size≤B):w'.ownsRow base e size v n xs :=
 zcH h fun k hk=>hb.block k (Nat.lt_of_lt_of_le (h.lt k hk).2 hB)
theorem zna {w:World} {base:Nat} {e:TypeId} (cs:List UInt8) (cur:Array Value) (hcur:cur.toList=zb2 cs) (hb:base≤w.heap.size) (hm:cs.length≤maxLen) :
 (w.alloc (.cells cur e)).ownsRow base e 1 (.slice (some ⟨w.heap.size,0,none⟩) cs.length cs.length) cs.length (zb2 cs):=by
 refine ⟨by simp[zb2],.inr ⟨w.heap.size,cs.length,cur,rfl,hb,heap_alloc_new w _,yG _,hm,?_,?_⟩⟩
 ·rw[← Array.length_toList,hcur];simp[zb2]
 ·rw[hcur,Nat.mul_one,List.take_of_length_le (by simp[zb2])]
theorem zdE {w:World} {base:Nat} {e e':TypeId} {size:Nat} {v:Value} {n:Nat} {xs:List Value} {sb m:Nat} {C:Array Value} (h:w.ownsRow base e size v n xs) (hs:w.heap[sb]?=some (.cells C e' (m,m+1))):v.ownBlock≠some sb:=by
 intro hv;rcases h.2 with ⟨rfl,_⟩|⟨g,cap,cur,rfl,hg,hh,r⟩
 ·simp[Value.ownBlock]at hv
 ·simp only[Value.ownBlock,Option.some.injEq]at hv;subst hv;rw[hh]at hs;simp at hs
theorem zdi {P:Program} {ops:Array Oper} {rest:List Oper} {o:Oper} {a:Act} {Q:Exit→Act→World→Prop} {w:World} (hgd:o.guard=none) (s x:Operand) (t e:TypeId)
 (ho:o.op=.call { callee:=.builtin .append,args:=#[s,x],argTypes:=#[t,t] }) {i:TypeInfo} (ht:P.underlying t=some (.slice e)) (hi:P.info? e=some i) (hz:i.zero=some (.int .u8 0)) (hsize:i.size=1) (hby:i.bytes=1)
 (base:Nat) (v:Value) (l:List UInt8) (b:UInt8) (c:Int) (hc:c=b.toNat) (hs:a.eval s=v) (hown:w.ownsRow base e 1 v l.length (zb2 l)) (hx:a.eval x=.slice (some ⟨w.heap.size,0,none⟩) 1 1)
 (hlen:l.length+1≤140737488355328) (hbase:base≤w.heap.size)
 (h:∀ v' w',w'.ownsRow base e 1 v' (l++[b]).length (zb2 (l++[b]))→w.grownBy w' v.ownBlock→wpList P ops Q rest (a.put o.dst v') w') :
 wpList P ops Q (o::rest) a (w.alloc (.cells #[.int .u8 c] e)):=by
 refine wpList_append_own (w.alloc (.cells #[.int .u8 c] e)) hgd s x t ho base e i (.int .u8 0) 1 1 ht hi hz hsize hby rfl (by decide) v l.length (zb2 l) hs (hown.alloc _) ⟨w.heap.size,0,none⟩ 1 1 [.int .u8 c] hx rfl ?_ ?_ ?_ ?_ ?_ ?_
 ·intro j u hj;match j,hj with
  | 0,hj=>simp at hj;subst hj;simp[Addr.add]
 ·intro u hu;simp at hu;subst hu;rfl
 ·unfold maxLen;omega
 ·omega
 ·simp only[World.size_alloc];omega
 ·intro v' w' h1 h2 _;refine h v' w' ?_ ⟨h2.os,h2.tape,h2.output,?_,fun k hk hne=>?_⟩
  ·rw[zmb,yA];subst hc;exact h1
  ·have:=h2.size;simp only[World.size_alloc]at this;omega
  ·rw[h2.block k (by simp only[World.size_alloc];omega) hne,Below.heap_alloc w _ k hk]
theorem zgr {B:Nat} {a w w':World} {base:Nat} {e:TypeId} {size:Nat} {v:Value} {n:Nat} {xs:List Value} (h:Below B a w) (hown:w.ownsRow base e size v n xs) (hg:w.grownBy w' v.ownBlock) (hB:B≤base) (hs:B≤w.heap.size):Below B a w' :=
 h.grown hg hs fun k hk=>yH hB (hown.lt k hk).1
theorem zjh {w:World} (e:TypeId) (s:ByteArray):∃ (C:Array Value) (m:Nat),(Lib.bytesWorld w e s).heap[w.heap.size]?=some (.cells C e (m,m+1))∧∀ (k:Nat) (b:UInt8),s.data.toList[k]?=some b→C[k]?=some (Value.int .u8 b.toNat):=by
 refine ⟨_,_,Lib.bytesWorld_at_new w e s,fun k b hk=>?_⟩;have h:=zeu (w:=w) e s k b hk;rw[cell_of_row _ _ _ _ _ _ (Lib.bytesWorld_at_new w e s)]at h;exact h
theorem zdf {w0 wr w1:World} {B base n size sb m:Nat} {e e':TypeId} {v:Value} {xs:List Value} {C:Array Value} (hown:wr.ownsRow base e size v n xs) (hrow:wr.heap[sb]?=some (.cells C e' (m,m+1))) (hbel:Below B w0 wr) (hB:B≤base) (hs:B≤wr.heap.size) (hg:wr.grownBy w1 v.ownBlock) :
 w1.heap[sb]?=some (.cells C e' (m,m+1))∧Below B w0 w1∧wr.heap.size≤w1.heap.size:=by
 have hlt:sb<wr.heap.size:=by
  apply Classical.byContradiction;intro hn;rw[Array.getElem?_eq_none (by omega)]at hrow
  cases hrow
 exact ⟨(hg.block sb hlt (Ne.symm (zdE hown hrow))).trans hrow,zgr hbel hown hg hB hs,hg.size⟩
theorem zh5 (b:UInt8):(b.toNat:Int)≤255:=by have:=b.toNat_lt;omega
theorem zev {a b:UInt8} (h:(a.toNat:Int)=b.toNat):a=b:=UInt8.toNat_inj.1 (by omega)
open Go.Sort
structure Box (W:World) (B:Nat) (vs:List Value):Prop where
 lt:B<W.heap.size
 cl:∀ (i:Nat) (v:Value),vs[i]?=some v→W.cell? ⟨B,i,none⟩=some v
 fr:∀ i,i<vs.length→W.frozen? ⟨B,i,none⟩=false
theorem Box.below {W W':World} {B C:Nat} {vs:List Value} (h:Box W B vs) (hb:Below C W W') (hC:B<C):Box W' B vs :=
 ⟨Nat.lt_of_lt_of_le h.lt hb.size,fun i v hv=>(hb.cell (by exact hC)).trans (h.cl i v hv),fun i hi=>(hb.frozen (by exact hC)).trans (h.fr i hi)⟩
theorem Box.next {W W':World} {B:Nat} {vs:List Value} (h:Box W B vs) (hb:Below W.heap.size W W'):Box W' B vs:=h.below hb h.lt
theorem Box.new (w:World) (vs:List Value) (t:TypeId):Box (w.alloc (.cells vs.toArray t)) w.heap.size vs :=
 ⟨by simp,fun i v hv=>by rw[World.cell?_alloc_at _ _ _ _ rfl];simpa using hv,fun i hi=>World.frozen?_alloc_at _ _ _ _ rfl⟩
theorem Box.alloc {W:World} {B:Nat} {vs:List Value} (h:Box W B vs) (o:Obj):Box (W.alloc o) B vs :=
 ⟨by have:=h.lt;simp;omega,fun i v hv=>(World.cell?_alloc_past o _ _ h.lt).trans (h.cl i v hv),fun i hi=>(World.frozen?_alloc_past o _ _ h.lt).trans (h.fr i hi)⟩
theorem Box.put {W:World} {B:Nat} {vs:List Value} (h:Box W B vs) (i:Nat) (v:Value):Box (W.setCell ⟨B,i,none⟩ v) B (vs.set i v):=by
 refine ⟨by rw[World.size_setCell];exact h.lt,fun j u hu=>?_,fun j hj=>?_⟩
 ·by_cases hij:i=j
  ·subst hij;rw[List.getElem?_set_self']at hu
   cases hv:vs[i]? with
   | none=>rw[hv]at hu;cases hu
   | some x =>
    rw[hv]at hu;have hu':v=u:=by simpa using hu
    subst hu';exact World.cell?_setCell_same _ _ _ (h.cl i x hv)
  ·rw[List.getElem?_set_ne hij]at hu;rw[World.cell?_setCell_other _ _ _ _ (by simp<;>exact hij)];exact h.cl j u hu
 ·rw[World.frozen?_setCell];exact h.fr j (by simpa using hj)
theorem Box.other {W:World} {B C:Nat} {vs:List Value} (h:Box W B vs) (hB:C≠B) (i:Nat) (v:Value):Box (W.setCell ⟨C,i,none⟩ v) B vs :=
 ⟨by rw[World.size_setCell];exact h.lt,fun j u hu=>by rw[World.cell?_setCell_other _ _ _ _ (by simp<;>exact hB)];exact h.cl j u hu,fun j hj=>by rw[World.frozen?_setCell];exact h.fr j hj⟩
theorem Box.put3 {W:World} {B:Nat} {u0 u1 u2:Value} (h:Box W B [u0,u1,u2]) (v0 v1 v2:Value):Box (((W.setCell ⟨B,0,none⟩ v0).setCell ⟨B,1,none⟩ v1).setCell ⟨B,2,none⟩ v2) B [v0,v1,v2]:=((h.put 0 v0).put 1 v1).put 2 v2
theorem Box.other3 {W:World} {B C:Nat} {vs:List Value} (h:Box W B vs) (hB:C≠B) (v0 v1 v2:Value):Box (((W.setCell ⟨C,0,none⟩ v0).setCell ⟨C,1,none⟩ v1).setCell ⟨C,2,none⟩ v2) B vs:=((h.other hB 0 v0).other hB 1 v1).other hB 2 v2
theorem zfu {W a:World} {B C:Nat} (h:Below B a W) (hC:B≤C) (v0 v1 v2:Value):Below B a (((W.setCell ⟨C,0,none⟩ v0).setCell ⟨C,1,none⟩ v1).setCell ⟨C,2,none⟩ v2) :=
 ((h.setCell hC _).setCell hC _).setCell hC _
theorem Box.three {W:World} {B:Nat} {a b c:Value} (h:Box W B [a,b,c]):W.cell? ⟨B,0,none⟩=some a∧W.cell? ⟨B,1,none⟩=some b∧W.cell? ⟨B,2,none⟩=some c∧W.frozen? ⟨B,0,none⟩=false∧W.frozen? ⟨B,1,none⟩=false∧W.frozen? ⟨B,2,none⟩=false :=
 ⟨h.cl 0 _ rfl,h.cl 1 _ rfl,h.cl 2 _ rfl,h.fr 0 (by simp),h.fr 1 (by simp),h.fr 2 (by simp)⟩
end Go.Proofs.YtonkjhmkppeagaaGreatDoor.Ba
namespace Go.Proofs.YtonkjhmkppeagaaGreatDoor.Ba
open Go.Proofs.Tryz
open Go.RowKit Go
def SlAt (W:World) (v:Value) (sz:Nat) (xs:List (List Value)):Prop :=
 ∃ ao cap,v=.slice ao xs.length cap∧xs.length≤cap∧cap≤maxLen∧∀ i x,xs[i]?=some x→∃ b o,ao=some ⟨b,o,none⟩∧b<W.heap.size∧∀ j,j<sz→W.cell? ⟨b,o+(i*sz+j),none⟩=x[j]?
theorem zhZ {sz:Nat}:∀ (xs:List (List Value)),(∀ x∈xs,x.length=sz)→∀ (i:Nat) (x:List Value),xs[i]?=some x→∀ j,j<sz→xs.flatten[i*sz+j]?=x[j]?
 | [],_,i,x,h,j,hj=>by simp at h
 | y::ys,hl,i,x,h,j,hj=>by
  have hy:=hl y (by simp)
  cases i with
  | zero =>
   simp only[List.getElem?_cons_zero,Option.some.injEq]at h;subst h;rw[Nat.zero_mul,Nat.zero_add,List.flatten_cons,List.getElem?_append_left (by omega)]
  | succ i =>
   rw[List.getElem?_cons_succ]at h;rw[List.flatten_cons,List.getElem?_append_right (by rw[hy,Nat.succ_mul];omega),hy,Nat.succ_mul,show i*sz+sz+j-sz=i*sz+j by omega];exact zhZ ys (fun z hz=>hl z (by simp[hz])) i x h j hj
theorem SlAt.of {w:World} {base sz:Nat} {e:TypeId} {v:Value} {xs:List (List Value)} (hs:∀ x∈xs,x.length=sz) (h:w.ownsRow base e sz v xs.length xs.flatten):SlAt w v sz xs:=by
 rcases h.2 with ⟨rfl,h2⟩|⟨g,cap,cur,rfl,hg,hh,h3,h4,h5,h6⟩
 ·refine ⟨none,0,by rw[h2],by omega,by unfold maxLen;omega,fun i x hx=>?_⟩;have:=(yE.1 hx).1;omega
 ·refine ⟨some ⟨g,0,none⟩,cap,rfl,h3,h4,fun i x hx=>⟨g,0,rfl,(h.lt g rfl).2,fun j hj=>?_⟩⟩;have hi:=(yE.1 hx).1;have hlt:i*sz+j<xs.length*sz:=by
   have:(i+1)*sz≤xs.length*sz:=Nat.mul_le_mul_right _ hi;rw[Nat.succ_mul]at this;omega
  rw[Nat.zero_add,h.cellAt _ hlt];exact zhZ xs hs i x hx j hj
section
variable {P:Program} {ops:Array Oper} {Q:Exit→Act→World→Prop} {md:Region.Mode} {S:World→Prop} {m:Nat}
def zbf (P:Program) (md:Region.Mode) (ops:Array Oper) (Q:Exit→Act→World→Prop) (S:World→Prop) (m:Nat):Nat→Array Bool→Act→World→Prop
 | 0,listed,a,w=>Region.ready md ops listed=[]∧Q .normal a w
 | fuel+1,listed,a,w =>
  (Region.ready md ops listed=[]→Q .normal a w)∧
  ∀ i∈Region.ready md ops listed,wpOp P ops Q i (fun a' w'=>((listed.setIfInBounds i true).getD m true=false→S w')∧zbf P md ops Q S m fuel (listed.setIfInBounds i true) a' w') a w
theorem zgF:∀ (fuel:Nat) (listed:Array Bool) (a:Act) (w:World),zbf P md ops Q S m fuel listed a w→wpAny P md ops Q fuel listed a w
 | 0,_,_,_,h=>h
 | fuel+1,_,_,_,h=>⟨h.1,fun i hi=>wpOp_mono (fun a' w' h'=>zgF fuel _ a' w' h'.2) (h.2 i hi)⟩
def Waits (md:Region.Mode) (ops:Array Oper) (m i:Nat):Bool:=match ops[m]? with
 | some o=>o.after.any fun e=>Region.binds md e && e.on == i
 | none=>false
theorem zid {i:Nat} {oi:Oper} {v:Value} (hi:ops[i]?=some oi) (hsel:∀ (j:Nat) (o:Oper) cs b,ops[j]?=some o→o.op≠.select cs b)
 (hQ:∀ c a w,Q (.panic c) (a.put oi.dst v) w→Q (.panic c) a w) (hw:Waits md ops m i=true) :
 ∀ (fuel:Nat) (listed:Array Bool) (a:Act) (w:World),
  (∀ j oj,ops[j]?=some oj→j≠i→listed.getD j true=false→(∀ e∈oj.after,Region.binds md e=true→e.on≠i)→oi.apart ops oj=true)→
  i∈Region.ready md ops listed→YieldsIf P ops S oi v a→S w→i≠m→listed.getD m true=false→
  zbf P md ops Q S m fuel (listed.setIfInBounds i true) (a.put oi.dst v) w→zbf P md ops Q S m (fuel+1) listed a w:=by
 intro fuel;induction fuel with
 | zero =>
  intro listed a w _ hr hy hS him hlm H;refine ⟨fun h=>(by rw[h]at hr;cases hr),fun j hj=>?_⟩;by_cases hji:j=i
  ·subst hji;exact hy.wpOp hi hS ⟨fun _=>hS,H⟩
  ·have:=ready_mono hj hji;rw[H.1]at this
   cases this
 | succ fuel ih =>
  intro listed a w hfree hr hy hS him hlm H;refine ⟨fun h=>(by rw[h]at hr;cases hr),fun j hj=>?_⟩;by_cases hji:j=i
  ·subst hji;exact hy.wpOp hi hS ⟨fun _=>hS,H⟩
  ·have h1:=H.2 j (ready_mono hj hji);obtain ⟨hjun,oj,hoj,hall⟩:=mem_ready.1 hj;have hnot:∀ e∈oj.after,Region.binds md e=true→e.on≠i:=fun e he hb heq=>by
    have h1:=hall e he hb;have h0:=(mem_ready.1 hr).1;rw[heq]at h1;rcases Nat.lt_or_ge i listed.size with h'|h'
    ·simp[h']at h0 h1;rw[h0]at h1;cases h1
    ·simp[Array.getElem?_eq_none h']at h1
   have hjm:j≠m:=by
    rintro rfl;unfold Waits at hw;rw[hoj]at hw;simp only[Array.any_eq_true,Bool.and_eq_true,beq_iff_eq]at hw;obtain ⟨k,hk,hb,he⟩:=hw;exact hnot _ (Array.getElem_mem hk) hb he
   have hm2:((listed.setIfInBounds i true).setIfInBounds j true).getD m true=false:=by rw[getD_set_ne true hjm,getD_set_ne true him];exact hlm
   have hm3:(listed.setIfInBounds j true).getD m true=false:=by rw[getD_set_ne true hjm];exact hlm
   have h2:=wpOp_putIf hoj (hfree j oj hoj hji hjun hnot) (fun cs b=>hsel i oi cs b hi) (fun cs b=>hsel j oj cs b hoj) hQ hy h1;have hfree':∀ k ok,ops[k]?=some ok→k≠i→(listed.setIfInBounds j true).getD k true=false→
    (∀ e∈ok.after,Region.binds md e=true→e.on≠i)→oi.apart ops ok=true:=fun k ok hk hki hun hno=>by
    refine hfree k ok hk hki ?_ hno;by_cases hjk:j=k
    ·subst hjk;exact hjun
    ·rw[getD_set_ne true hjk]at hun;exact hun
   refine wpOp_mono (fun a' w' h3=>⟨fun _=>h3.2.1 hm2,ih (listed.setIfInBounds j true) a' w' hfree' (ready_mono hr (Ne.symm hji)) h3.1 (h3.2.1 hm2) him hm3 ?_⟩) h2;rw[Array.setIfInBounds_comm _ _ hji];exact h3.2.2
theorem zjk {i:Nat} {oi:Oper} {v:Value} {fuel:Nat} {listed:Array Bool} {a:Act} {w:World} (hi:ops[i]?=some oi)
 (hs:Region.noSelect ops=true) (hf:Region.free md ops listed i=true) (hr:(Region.ready md ops listed).contains i=true) (hw:Waits md ops m i=true) (hlm:listed.getD m true=false) (him:(i == m)=false)
 (hQ:∀ c a w,Q (.panic c) (a.put oi.dst v) w→Q (.panic c) a w) (hy:YieldsIf P ops S oi v a) (hS:S w)
 (h:zbf P md ops Q S m fuel (listed.setIfInBounds i true) (a.put oi.dst v) w):zbf P md ops Q S m (fuel+1) listed a w :=
 zid hi (Region.noSelect_spec hs) hQ hw fuel listed a w (Region.free_spec hi hf) (by simpa using hr) hy hS (by simpa using him) hlm h
theorem zfT {i:Nat} {oi:Oper} {v:Value} (hi:ops[i]?=some oi) (hsel:Region.noSelect ops=true) (him:(i == m)=false)
 (hQ:∀ c a w,Q (.panic c) (a.put oi.dst v) w→Q (.panic c) a w) :
 ∀ (fuel:Nat) (listed:Array Bool) (a:Act) (w:World),
  (∀ j oj,ops[j]?=some oj→j≠i→listed.getD j true=false→(∀ e∈oj.after,Region.binds md e=true→e.on≠i)→oi.apart ops oj=true)→
  i∈Region.ready md ops listed→YieldsIf P ops (fun _=>True) oi v a→(listed.getD m true=false→S w)→
  zbf P md ops Q S m fuel (listed.setIfInBounds i true) (a.put oi.dst v) w→zbf P md ops Q S m (fuel+1) listed a w:=by
 have him':i≠m:=by simpa using him
 have hsel':=Region.noSelect_spec hsel;intro fuel;induction fuel with
 | zero =>
  intro listed a w _ hr hy hS H;refine ⟨fun h=>(by rw[h]at hr;cases hr),fun j hj=>?_⟩;by_cases hji:j=i
  ·subst hji;exact hy.wpOp hi trivial ⟨fun e=>hS (by rw[getD_set_ne true him']at e;exact e),H⟩
  ·have:=ready_mono hj hji;rw[H.1]at this
   cases this
 | succ fuel ih =>
  intro listed a w hfree hr hy hS H;refine ⟨fun h=>(by rw[h]at hr;cases hr),fun j hj=>?_⟩;by_cases hji:j=i
  ·subst hji;exact hy.wpOp hi trivial ⟨fun e=>hS (by rw[getD_set_ne true him']at e;exact e),H⟩
  ·have h1:=H.2 j (ready_mono hj hji);obtain ⟨hjun,oj,hoj,hall⟩:=mem_ready.1 hj;have hnot:∀ e∈oj.after,Region.binds md e=true→e.on≠i:=fun e he hb heq=>by
    have h1:=hall e he hb;have h0:=(mem_ready.1 hr).1;rw[heq]at h1;rcases Nat.lt_or_ge i listed.size with h'|h'
    ·simp[h']at h0 h1;rw[h0]at h1;cases h1
    ·simp[Array.getElem?_eq_none h']at h1
   have h2:=wpOp_putIf hoj (hfree j oj hoj hji hjun hnot) (fun cs b=>hsel' i oi cs b hi) (fun cs b=>hsel' j oj cs b hoj) hQ hy h1;have hfree':∀ k ok,ops[k]?=some ok→k≠i→(listed.setIfInBounds j true).getD k true=false→
    (∀ e∈ok.after,Region.binds md e=true→e.on≠i)→oi.apart ops ok=true:=fun k ok hk hki hun hno=>by
    refine hfree k ok hk hki ?_ hno;by_cases hjk:j=k
    ·subst hjk;exact hjun
    ·rw[getD_set_ne true hjk]at hun;exact hun
   have hcomm:∀ z:Bool,((listed.setIfInBounds j true).getD m true=z)→(((listed.setIfInBounds i true).setIfInBounds j true).getD m true=z):=fun z hz=>by
    rw[Array.setIfInBounds_comm _ _ (Ne.symm hji),getD_set_ne true him'];exact hz
   refine wpOp_mono (fun a' w' h3=>⟨fun e=>h3.2.1 (hcomm _ e),ih (listed.setIfInBounds j true) a' w' hfree' (ready_mono hr (Ne.symm hji)) h3.1 (fun e=>h3.2.1 (hcomm _ e)) ?_⟩) h2;rw[Array.setIfInBounds_comm _ _ hji];exact h3.2.2
theorem zib {i:Nat} {oi:Oper} {v:Value} {fuel:Nat} {listed:Array Bool} {a:Act} {w:World} (hi:ops[i]?=some oi)
 (hs:Region.noSelect ops=true) (hf:Region.free md ops listed i=true) (hr:(Region.ready md ops listed).contains i=true) (hlm:listed.getD m true=true) (him:(i == m)=false)
 (hQ:∀ c a w,Q (.panic c) (a.put oi.dst v) w→Q (.panic c) a w) (hy:YieldsIf P ops (fun _=>True) oi v a)
 (h:zbf P md ops Q S m fuel (listed.setIfInBounds i true) (a.put oi.dst v) w):zbf P md ops Q S m (fuel+1) listed a w :=
 zfT hi hs him hQ fuel listed a w (Region.free_spec hi hf) (by simpa using hr) hy (fun e=>by rw[hlm]at e;cases e) h
theorem zjl {listed:Array Bool} {a:Act} {w:World} (hr:Region.ready md ops listed=[]) (h:Q .normal a w):∀ fuel,zbf P md ops Q S m fuel listed a w
 | 0=>⟨hr,h⟩
 | _+1=>⟨fun _=>h,by rw[hr];simp⟩
def zai (P:Program) (md:Region.Mode) (ops:Array Oper) (Q:Exit→Act→World→Prop) (S:World→Prop) (m fuel:Nat) (listed:Array Bool) (a:Act) (w:World) (rs:List Nat):Prop :=
 ∀ i∈rs,wpOp P ops Q i (fun a' w'=>((listed.setIfInBounds i true).getD m true=false→S w')∧zbf P md ops Q S m fuel (listed.setIfInBounds i true) a' w') a w
theorem zai.nil {fuel:Nat} {listed:Array Bool} {a:Act} {w:World}:zai P md ops Q S m fuel listed a w []:=fun _ h=>by cases h
theorem zai.cons {fuel:Nat} {listed:Array Bool} {a:Act} {w:World} {i:Nat} {o:Oper} {rs:List Nat} (ho:ops[i]?=some o)
 (h:∀ K':Act→World→Prop,Shut (∀ a w,S w→(S w→zbf P md ops Q S m fuel (listed.setIfInBounds i true) a w)→K' a w)→if Region.wanted o (yielded ops a.tmps)=true then Oper.wp P o a w K' Q else K' (a.put o.dst undef) w)
 (hs:zai P md ops Q S m fuel listed a w rs):zai P md ops Q S m fuel listed a w (i::rs):=fun j hj=>by
 rcases List.mem_cons.1 hj with rfl|hj
 ·exact wpOp_step ho (fun K' hK=>h K' (fun a w hS hW=>hK a w ⟨fun _=>hS,hW hS⟩))
 ·exact hs j hj
theorem zai.last {fuel:Nat} {listed:Array Bool} {a:Act} {w:World} {i:Nat} {o:Oper} {rs:List Nat} (ho:ops[i]?=some o) (hm:(listed.setIfInBounds i true).getD m true=true)
 (h:∀ K':Act→World→Prop,Shut (∀ a w,zbf P md ops Q S m fuel (listed.setIfInBounds i true) a w→K' a w)→if Region.wanted o (yielded ops a.tmps)=true then Oper.wp P o a w K' Q else K' (a.put o.dst undef) w)
 (hs:zai P md ops Q S m fuel listed a w rs):zai P md ops Q S m fuel listed a w (i::rs):=fun j hj=>by
 rcases List.mem_cons.1 hj with rfl|hj
 ·exact wpOp_step ho (fun K' hK=>h K' (fun a w hW=>hK a w ⟨fun e=>(by rw[hm]at e;cases e),hW⟩))
 ·exact hs j hj
theorem zic {rs:List Nat} {fuel:Nat} {listed:Array Bool} {a:Act} {w:World} (hr:Region.ready md ops listed=rs) (hne:rs≠[])
 (h:zai P md ops Q S m fuel listed a w rs):zbf P md ops Q S m (fuel+1) listed a w:=⟨fun h0=>absurd (hr ▸ h0) hne,hr ▸ h⟩
theorem zaa (m:Nat) {id:Nat} {a:Act} {w:World} (hm:P.follows .mixedOrders=true) (hS:S w.drew)
 (h:S w.drew→zbf P .any ops Q S m ops.size (Array.replicate ops.size false) a w.drew):(Code.region id ops true).wp P Q a w :=
 wp_region_any hm (zgF _ _ _ _ (h hS))
def TkB (md:Region.Mode) (ops:Array Oper) (m i:Nat) (listed:Array Bool):Bool:=Region.noSelect ops && (Region.free md ops listed i && ((Region.ready md ops listed).contains i && (Waits md ops m i && (!listed.getD m true && !(i == m)))))
theorem tkM (i:Nat) {oi:Oper} {v:Value} {fuel:Nat} {listed:Array Bool} {a:Act} {w:World} (hi:ops[i]?=some oi) (hb:TkB md ops m i listed=true) (hS:S w) (hy:YieldsIf P ops S oi v a)
 (h:zbf P md ops Q S m fuel (listed.setIfInBounds i true) (a.put oi.dst v) w) (hQ:∀ c a w,Q (.panic c) (a.put oi.dst v) w→Q (.panic c) a w:=by exact fun _ _ _ h=>h):zbf P md ops Q S m (fuel+1) listed a w:=by
 unfold TkB at hb;simp only[Bool.and_eq_true,Bool.not_eq_true']at hb;obtain ⟨b1,b2,b3,b4,b5,b6⟩:=hb;exact zjk hi b1 b2 b3 b4 b5 b6 hQ hy hS h
def TkC (md:Region.Mode) (ops:Array Oper) (m i:Nat) (listed:Array Bool) (b:Bool):Bool:=Region.noSelect ops && (Region.free md ops listed i && ((Region.ready md ops listed).contains i && (!(i == m) && (b || listed.getD m true))))
theorem tkP (i:Nat) {oi:Oper} {v:Value} {fuel:Nat} {listed:Array Bool} {a:Act} {w:World} (hi:ops[i]?=some oi) (hb:TkC md ops m i listed true=true) (hS:S w) (hy:YieldsIf P ops (fun _=>True) oi v a)
 (h:zbf P md ops Q S m fuel (listed.setIfInBounds i true) (a.put oi.dst v) w) (hQ:∀ c a w,Q (.panic c) (a.put oi.dst v) w→Q (.panic c) a w:=by exact fun _ _ _ h=>h):zbf P md ops Q S m (fuel+1) listed a w:=by
 unfold TkC at hb;simp only[Bool.and_eq_true,Bool.not_eq_true']at hb;obtain ⟨b1,b2,b3,b4,_⟩:=hb;exact zfT hi b1 b4 hQ fuel listed a w (Region.free_spec hi b2) (by simpa using b3) hy (fun _=>hS) h
theorem tkY (i:Nat) {oi:Oper} {v:Value} {fuel:Nat} {listed:Array Bool} {a:Act} {w:World} (hi:ops[i]?=some oi) (hb:TkC md ops m i listed false=true) (hy:YieldsIf P ops (fun _=>True) oi v a)
 (h:zbf P md ops Q S m fuel (listed.setIfInBounds i true) (a.put oi.dst v) w) (hQ:∀ c a w,Q (.panic c) (a.put oi.dst v) w→Q (.panic c) a w:=by exact fun _ _ _ h=>h):zbf P md ops Q S m (fuel+1) listed a w:=by
 unfold TkC at hb;simp only[Bool.and_eq_true,Bool.not_eq_true',Bool.false_or]at hb;obtain ⟨b1,b2,b3,b4,b5⟩:=hb;exact zib hi b1 b2 b3 b5 b4 hQ hy h
theorem zs:(∀ (a:Act) (d:Option Tmp) (v:Value),a.put d v=match d with
 | some d=>{ a with tmps:=a.tmps.setIfInBounds d v }
 | none=>a)∧(∀ (l:List Value) (i:Nat) (v:Value),l.toArray.setIfInBounds i v=(l.set i v).toArray)∧(∀ (l:List Value) (x v:Value),(x::l).set 0 v=v::l)∧(∀ (l:List Value) (x v:Value) (i:Nat),(x::l).set (i+1) v=x::l.set i v)∧
 (∀ (l:List Bool) (i:Nat) (v:Bool),l.toArray.setIfInBounds i v=(l.set i v).toArray)∧(∀ (l:List Bool) (x v:Bool),(x::l).set 0 v=v::l)∧(∀ (l:List Bool) (x v:Bool) (i:Nat),(x::l).set (i+1) v=x::l.set i v) :=
 ⟨fun _ _ _=>rfl,fun _ _ _=>List.setIfInBounds_toArray ..,fun _ _ _=>rfl,fun _ _ _ _=>rfl,fun _ _ _=>List.setIfInBounds_toArray ..,fun _ _ _=>rfl,fun _ _ _ _=>rfl⟩
theorem tKm (i:Nat) {oi:Oper} {v:Value} {fuel:Nat} {listed l':Array Bool} {a a':Act} {w:World} (h:zbf P md ops Q S m fuel l' a' w) (hS:S w:=by assumption) (hi:ops[i]?=some oi:=by exact rfl) (hb:TkB md ops m i listed=true:=by kernel_rfl)
 (hy:YieldsIf P ops S oi v a:=by exact Or.inl ⟨by rfl,by intro w hSw;(try dsimp only at hSw);go_simp<;>with_reducible rfl⟩)
 (hl:listed.setIfInBounds i true=l':=by first|(simp only[Array.reduceGetElem,zs];exact rfl)|exact rfl) (ha:a.put oi.dst v=a':=by first|(simp only[Array.reduceGetElem,zs];exact rfl)|exact rfl)
 (hQ:∀ c a w,Q (.panic c) (a.put oi.dst v) w→Q (.panic c) a w:=by exact fun _ _ _ h=>h):zbf P md ops Q S m (fuel+1) listed a w:=tkM i hi hb hS hy (by rw[hl,ha];exact h) hQ
theorem tKp (i:Nat) {oi:Oper} {v:Value} {fuel:Nat} {listed l':Array Bool} {a a':Act} {w:World} (h:zbf P md ops Q S m fuel l' a' w) (hS:S w:=by assumption) (hi:ops[i]?=some oi:=by exact rfl) (hb:TkC md ops m i listed true=true:=by kernel_rfl)
 (hy:YieldsIf P ops (fun _=>True) oi v a:=by exact Or.inl ⟨by rfl,by intro w hSw;clear hSw;go_simp<;>with_reducible rfl⟩)
 (hl:listed.setIfInBounds i true=l':=by first|(simp only[Array.reduceGetElem,zs];exact rfl)|exact rfl) (ha:a.put oi.dst v=a':=by first|(simp only[Array.reduceGetElem,zs];exact rfl)|exact rfl)
 (hQ:∀ c a w,Q (.panic c) (a.put oi.dst v) w→Q (.panic c) a w:=by exact fun _ _ _ h=>h):zbf P md ops Q S m (fuel+1) listed a w:=tkP i hi hb hS hy (by rw[hl,ha];exact h) hQ
theorem rKs (rs:List Nat) {fuel:Nat} {listed l':Array Bool} {a a':Act} {w:World} (h:zai P md ops Q S m fuel l' a' w rs) (hr:Region.ready md ops listed=rs:=by kernel_rfl) (hne:rs≠[]:=by simp)
 (hl:listed=l':=by first|(simp only[Array.reduceGetElem,zs];exact rfl)|exact rfl) (ha:a=a':=by first|(simp only[Array.reduceGetElem,zs];exact rfl)|exact rfl):zbf P md ops Q S m (fuel+1) listed a w:=zic hr hne (by rw[hl,ha];exact h)
theorem rK1 (i:Nat) {o:Oper} {fuel:Nat} {listed l':Array Bool} {a a':Act} {w:World}
 (h:∀ K':Act→World→Prop,Shut (∀ a w,S w→(S w→zbf P md ops Q S m fuel (l'.setIfInBounds i true) a w)→K' a w)→if Region.wanted o (yielded ops a'.tmps)=true then Oper.wp P o a' w K' Q else K' (a'.put o.dst undef) w)
 (hr:Region.ready md ops listed=[i]:=by kernel_rfl) (ho:ops[i]?=some o:=by exact rfl)
 (hl:listed=l':=by first|(simp only[Array.reduceGetElem,zs];exact rfl)|exact rfl) (ha:a=a':=by first|(simp only[Array.reduceGetElem,zs];exact rfl)|exact rfl):zbf P md ops Q S m (fuel+1) listed a w:=rKs [i] (zai.cons ho h .nil) hr (by simp) hl ha
theorem rKl (i:Nat) {o:Oper} {fuel:Nat} {listed l':Array Bool} {a a':Act} {w:World}
 (h:∀ K':Act→World→Prop,Shut (∀ a w,zbf P md ops Q S m fuel (l'.setIfInBounds i true) a w→K' a w)→if Region.wanted o (yielded ops a'.tmps)=true then Oper.wp P o a' w K' Q else K' (a'.put o.dst undef) w)
 (hr:Region.ready md ops listed=[i]:=by kernel_rfl) (ho:ops[i]?=some o:=by exact rfl) (hm:(listed.setIfInBounds i true).getD m true=true:=by kernel_rfl)
 (hl:listed=l':=by first|(simp only[Array.reduceGetElem,zs];exact rfl)|exact rfl) (ha:a=a':=by first|(simp only[Array.reduceGetElem,zs];exact rfl)|exact rfl):zbf P md ops Q S m (fuel+1) listed a w:=rKs [i] (zai.last ho (hl ▸ hm) h .nil) hr (by simp) hl ha
theorem rKd {listed:Array Bool} {a a':Act} {w:World} {fuel:Nat} (h:Q .normal a' w) (hr:Region.ready md ops listed=[]:=by kernel_rfl) (ha:a=a':=by first|(simp only[Array.reduceGetElem,zs];exact rfl)|exact rfl):zbf P md ops Q S m fuel listed a w:=zjl hr (by rw[ha];exact h) fuel
end
