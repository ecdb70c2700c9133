/- Walks: what lies one deeper, for whatever function value is handed on. Walks: a list with commas; operations of one rank. Rows that are gathered: the last one is written anew; an append whose new row lies in a block known by its cells. No function of the program in sight. What a closure of the reader finds: the variable in which a row is gathered, the variable that holds the reader, the reader. No function of the program in sight. -/
import Derived.Test.YtonkjhmkppeagaaGreatDoorWPsB
import Derived.Deep.Cut
import Derived.Shelf.Abstract
import Derived.Deep.LoopGhost
set_option maxRecDepth 100000
set_option maxHeartbeats 6400000
set_option linter.unusedVariables false
set_option linter.unusedSimpArgs false
namespace Go.Proofs.YtonkjhmkppeagaaGreatDoor.Pz
open Go.Proofs.Tryz
open Go.Lib (hid)
open Go.RowKit Go Go.Sort Ba Lx
theorem zhh (F:FuncId) (fst cap:Array Value) (s:Ps) (w:World) (B:Nat) (h:PAt w B 32 s) :
 Calls Tryz.prog 79 #[.pointer (some ⟨B,0,none⟩),.func (.func F) fst cap] w (ExTo w B 32 zEx (failP s 52)):=by
 have hlt:=h.lt;have bw:Below w.heap.size w ((w.alloc (.cells zzA 27)).alloc (.cells zzA 27)):=((Below.refl _ w).alloc (yG _) _).alloc (by simp) _;have HPA:=hid (h.below bw)
 have R0:Box ((w.alloc (.cells zzA 27)).alloc (.cells zzA 27)) w.heap.size zzL:=(Box.new w zzL 27).alloc _
 have R1:Box ((w.alloc (.cells zzA 27)).alloc (.cells zzA 27)) (w.heap.size+1) zzL:=by
  have:=Box.new (w.alloc (.cells zzA 27)) zzL 27;rw[World.size_alloc]at this;exact this
 obtain ⟨_,_,_,_,sl,hb,_⟩:=h;obtain ⟨b0,b1,b2,b3,b4,b5,_⟩:=hb.six;clear hb;go_enter func79,ntmps79
 go_wp2_with (go_at_call 78;refine (zcc s 52 _ B 32 HPA.out).mono ?_;rintro e w1 ⟨rfl,hK,hP⟩;have S0:=R0.kept hK (by show ¬ w.heap.size=B;omega);have S1:=R1.kept hK (by show ¬ w.heap.size+1=B;omega);have c0:=S1.cl 0 _ rfl;have d0:=S0.cl 0 _ rfl;have f0:=S0.fr 0 (by simp);have c1:=S1.cl 1 _ rfl;have d1:=S0.cl 1 _ rfl;have f1:=S0.fr 1 (by simp);have c2:=S1.cl 2 _ rfl;have d2:=S0.cl 2 _ rfl;have f2:=S0.fr 2 (by simp);have c3:=S1.cl 3 _ rfl;have d3:=S0.cl 3 _ rfl;have f3:=S0.fr 3 (by simp);have c4:=S1.cl 4 _ rfl;have d4:=S0.cl 4 _ rfl;have f4:=S0.fr 4 (by simp);have c5:=S1.cl 5 _ rfl;have d5:=S0.cl 5 _ rfl;have f5:=S0.fr 5 (by simp);have c6:=S1.cl 6 _ rfl;have d6:=S0.cl 6 _ rfl;have f6:=S0.fr 6 (by simp))
 have SP:=S0.setN (vs:=zzL) rfl;have p0:=SP.cl 0 _ rfl;have p1:=SP.cl 1 _ rfl;have p2:=SP.cl 2 _ rfl;have p3:=SP.cl 3 _ rfl;have p4:=SP.cl 4 _ rfl;have p5:=SP.cl 5 _ rfl;have p6:=SP.cl 6 _ rfl;have K2:=Kept.setN (B:=w.heap.size) (.inr (yG _)) zzL 0 ((Kept.of_below (S:=fun b=>b=B) bw).trans hK);have K3:=Kept.setN (S:=fun b=>b=w.heap.size) (B:=w.heap.size) (.inl rfl) zzL 0 (Kept.refl _ w1);dsimp only[setN]at K2 K3 p0 p1 p2 p3 p4 p5 p6;refine bodyPost_ret (by simp[results,results79,go_sem,p0,p1,p2,p3,p4,p5,p6];try rfl) rfl ?_
 exact ⟨none,0,rfl,zaN _ _,K2,hP.apart K3 hlt⟩
theorem zgv (F:FuncId) (hF:Enters Tryz.prog F) (fst cap:Array Value) (s:Ps) (x:Ex) (s':Ps) (w:World) (B d:Nat) (hd:d<32) (h:PAt w B d s)
 (H:∀ W,Kept (fun b=>b=B) w W→PAt W B (d+1) s→Calls Tryz.prog F (fst++cap) W (ExTo W B (d+1) x s')) :
 Calls Tryz.prog 79 #[.pointer (some ⟨B,0,none⟩),.func (.func F) fst cap] w (ExTo w B d x s'):=by
 have HH:=hid H;have hlt:=h.lt;have HP0:=hid h;obtain ⟨il,_,_,_,sl,hb,ht⟩:=h;have HT:=hid ht;have KW:Kept (fun b=>b=B) w (((w.setCell ⟨B,3,none⟩ (.int .i64 ((d:Int)+1))).alloc (.cells zzA 27)).alloc (.cells zzA 27)):=(((Kept.refl (fun b=>b=B) w).set ⟨B,3,none⟩ (.inl rfl) _).alloc _).alloc _
 have PW:Hid (PAt (((w.setCell ⟨B,3,none⟩ (.int .i64 ((d:Int)+1))).alloc (.cells zzA 27)).alloc (.cells zzA 27)) B (d+1) s):=HP0.out.turn (d':=d+1) HT.out KW il (by omega) (((hb.put 3 _).alloc _).alloc _);have R0:Box (((w.setCell ⟨B,3,none⟩ (.int .i64 ((d:Int)+1))).alloc (.cells zzA 27)).alloc (.cells zzA 27)) w.heap.size zzL:=by
  have:=(Box.new (w.setCell ⟨B,3,none⟩ (.int .i64 ((d:Int)+1))) zzL 27).alloc (.cells zzA 27);rw[World.size_setCell]at this;exact this
 have R1:Box (((w.setCell ⟨B,3,none⟩ (.int .i64 ((d:Int)+1))).alloc (.cells zzA 27)).alloc (.cells zzA 27)) (w.heap.size+1) zzL:=by
  have:=Box.new ((w.setCell ⟨B,3,none⟩ (.int .i64 ((d:Int)+1))).alloc (.cells zzA 27)) zzL 27;rw[World.size_alloc,World.size_setCell]at this;exact this
 obtain ⟨b0,b1,b2,b3,b4,b5,g1,g3,g4,g5⟩:=hb.six;have hdd:((d:Int) == 32)=false:=by simp;omega
 clear hb H ht;go_enter func79,ntmps79
 go_wp2_with fail
 have HZ:Hid (w.heap.size+2≤(((w.setCell ⟨B,3,none⟩ (.int .i64 ((d:Int)+1))).alloc (.cells zzA 27)).alloc (.cells zzA 27)).heap.size):=by show _≤_;simp
 generalize ((w.setCell ⟨B,3,none⟩ (.int .i64 ((d:Int)+1))).alloc (.cells zzA 27)).alloc (.cells zzA 27)=W1 at *
 have hC:=HH.out W1 KW PW.out;rw[hF,Oper.upon_enter];refine hC.mono ?_;rintro e w1 ⟨ao,cp,rfl,hA,hK,hP⟩;have HA:=hid hA;have HK:=hid hK;have HP:=hid hP;obtain ⟨il',_,_,_,sl',hb',ht'⟩:=hP;have HT':=hid ht';have hb2:Box w1 B [sl',.int .i64 (s'.i:Int),.int .i64 (s'.E:Int),.int .i64 ((d:Int)+1),.int .i64 s'.e,.int .i64 (s'.a:Int)]:=hb';have S0:=R0.kept HK.out (by show ¬ w.heap.size=B;omega);have S1:=R1.kept HK.out (by show ¬ w.heap.size+1=B;omega);have hB1:B<w1.heap.size:=hb'.lt;clear b0 b1 b2 b3 b4 b5 g1 g3 g4 g5 hC hA hK ht' hb' R0 R1;obtain ⟨b0,b1,b2,b3,b4,b5,g1,g3,g4,g5⟩:=hb2.six;have c0:=S1.cl 0 _ rfl;have c1:=S1.cl 1 _ rfl;have c2:=S1.cl 2 _ rfl;have c3:=S1.cl 3 _ rfl;have c4:=S1.cl 4 _ rfl;have c5:=S1.cl 5 _ rfl;have c6:=S1.cl 6 _ rfl;have e0:=S1.fr 0 (by simp);have e1:=S1.fr 1 (by simp);have e2:=S1.fr 2 (by simp);have e3:=S1.fr 3 (by simp)
 have e4:=S1.fr 4 (by simp);have e5:=S1.fr 5 (by simp);have e6:=S1.fr 6 (by simp);go_upto_region 7 with (fail)
 have Q0:=S0.otherN (C:=w.heap.size+1) (by omega) [.int .i64 x.k,.string ⟨x.nm.toArray⟩,.int .i64 x.v.k,.int .i64 x.v.n,.string ⟨x.v.t.toArray⟩,.string ⟨x.op.toArray⟩,.slice ao x.xs.length cp] 0;have Q1:=S1.setN (vs:=[.int .i64 x.k,.string ⟨x.nm.toArray⟩,.int .i64 x.v.k,.int .i64 x.v.n,.string ⟨x.v.t.toArray⟩,.string ⟨x.op.toArray⟩,.slice ao x.xs.length cp]) rfl;have QB:=hb2.otherN (C:=w.heap.size+1) (by omega) [.int .i64 x.k,.string ⟨x.nm.toArray⟩,.int .i64 x.v.k,.int .i64 x.v.n,.string ⟨x.v.t.toArray⟩,.string ⟨x.op.toArray⟩,.slice ao x.xs.length cp] 0;have QK:=Kept.setN (S:=fun b=>b=w.heap.size+1) (B:=w.heap.size+1) (.inl rfl) [.int .i64 x.k,.string ⟨x.nm.toArray⟩,.int .i64 x.v.k,.int .i64 x.v.n,.string ⟨x.v.t.toArray⟩,.string ⟨x.op.toArray⟩,.slice ao x.xs.length cp] 0 (Kept.refl _ w1);have QS:=QK.size;dsimp only[setN]at Q0 Q1 QB QK QS;have HQK:=hid QK
 clear b0 b1 b2 b3 b4 b5 g1 g3 g4 g5 c0 e0 c1 e1 c2 e2 c3 e3 c4 e4 c5 e5 c6 e6 S0 S1 hb2 QK;generalize ((((((w1.setCell ⟨w.heap.size+1,0,none⟩ (.int .i64 x.k)).setCell ⟨w.heap.size+1,1,none⟩ (.string ⟨x.nm.toArray⟩)).setCell ⟨w.heap.size+1,2,none⟩ (.int .i64 x.v.k)).setCell ⟨w.heap.size+1,3,none⟩ (.int .i64 x.v.n)).setCell ⟨w.heap.size+1,4,none⟩ (.string ⟨x.v.t.toArray⟩)).setCell ⟨w.heap.size+1,5,none⟩ (.string ⟨x.op.toArray⟩)).setCell ⟨w.heap.size+1,6,none⟩ (.slice ao x.xs.length cp)=w2 at *
 obtain ⟨b0,b1,b2,b3,b4,b5,g1,g3,g4,g5⟩:=QB.six;go_upto_region 8 with (fail)
 have Q0':=Q0.other (C:=B) (by omega) 3 (.int .i64 (d:Int));have Q1':=Q1.other (C:=B) (by omega) 3 (.int .i64 (d:Int));have QB':=QB.put 3 (.int .i64 (d:Int));have QK':=(Kept.refl (fun b=>b=B) w2).set ⟨B,3,none⟩ (.inl rfl) (.int .i64 (d:Int));have HQK':=hid QK';have QS':w1.heap.size≤(w2.setCell ⟨B,3,none⟩ (.int .i64 (d:Int))).heap.size:=yH QS QK'.size;clear b0 b1 b2 b3 b4 b5 g1 g3 g4 g5 Q0 Q1 QB QK' QS;generalize w2.setCell ⟨B,3,none⟩ (.int .i64 (d:Int))=w3 at *
 have c0:=Q1'.cl 0 _ rfl;have c1:=Q1'.cl 1 _ rfl;have c2:=Q1'.cl 2 _ rfl;have c3:=Q1'.cl 3 _ rfl;have c4:=Q1'.cl 4 _ rfl;have c5:=Q1'.cl 5 _ rfl;have c6:=Q1'.cl 6 _ rfl;have d0:=Q0'.cl 0 _ rfl;have d1:=Q0'.cl 1 _ rfl;have d2:=Q0'.cl 2 _ rfl;have d3:=Q0'.cl 3 _ rfl;have d4:=Q0'.cl 4 _ rfl;have d5:=Q0'.cl 5 _ rfl;have d6:=Q0'.cl 6 _ rfl;have f0:=Q0'.fr 0 (by simp);have f1:=Q0'.fr 1 (by simp);have f2:=Q0'.fr 2 (by simp);have f3:=Q0'.fr 3 (by simp);have f4:=Q0'.fr 4 (by simp);have f5:=Q0'.fr 5 (by simp);have f6:=Q0'.fr 6 (by simp);go_wp2_with fail
 have SP:=Q0'.setN (vs:=[.int .i64 x.k,.string ⟨x.nm.toArray⟩,.int .i64 x.v.k,.int .i64 x.v.n,.string ⟨x.v.t.toArray⟩,.string ⟨x.op.toArray⟩,.slice ao x.xs.length cp]) rfl;have p0:=SP.cl 0 _ rfl;have p1:=SP.cl 1 _ rfl;have p2:=SP.cl 2 _ rfl;have p3:=SP.cl 3 _ rfl;have p4:=SP.cl 4 _ rfl;have p5:=SP.cl 5 _ rfl;have p6:=SP.cl 6 _ rfl;have K3:=Kept.setN (S:=fun b=>b=w.heap.size) (B:=w.heap.size) (.inl rfl) [.int .i64 x.k,.string ⟨x.nm.toArray⟩,.int .i64 x.v.k,.int .i64 x.v.n,.string ⟨x.v.t.toArray⟩,.string ⟨x.op.toArray⟩,.slice ao x.xs.length cp] 0 (Kept.refl _ w3);have QZ:=QB'.otherN (C:=w.heap.size) (by omega) [.int .i64 x.k,.string ⟨x.nm.toArray⟩,.int .i64 x.v.k,.int .i64 x.v.n,.string ⟨x.v.t.toArray⟩,.string ⟨x.op.toArray⟩,.slice ao x.xs.length cp] 0;dsimp only[setN]at K3 QZ p0 p1 p2 p3 p4 p5 p6
 refine bodyPost_ret (by simp[results,results79,go_sem,p0,p1,p2,p3,p4,p5,p6];try rfl) rfl ?_;have KA:=((HQK.out.mono (S':=fun b=>b=B∨b=w.heap.size+1∨b=w.heap.size) (fun _ _ h=>.inr (.inl h))).trans (HQK'.out.mono fun _ _ h=>.inl h)).trans (K3.mono fun _ _ h=>.inr (.inr h));have KT:=(KW.trans HK.out).then KA fun k hk h=>by
  rcases h with h|h|h
  ·exact h
  ·omega
  ·omega
 have hA:=HA.out;refine ⟨ao,cp,rfl,hA.both KA (fun b hb hw h=>?_) (fun b _ hw=>?_),KT,?_⟩
 ·have:=HZ.out;rcases h with h|h|h<;>omega
 ·have:=HZ.out;omega
 ·obtain ⟨_,tl,_,hn,_⟩:=HP.out;exact ⟨il',tl,by omega,hn,sl',QZ,HT'.out.kept KA fun k h=>by rcases h with h|h|h<;>omega⟩
theorem zl4 (F:FuncId) (fst cap:Array Value) (s:Ps) (w:World) (B:Nat) (h:PAt w B 32 s) :
 Calls Tryz.prog 54 #[.pointer (some ⟨B,0,none⟩),.func (.func F) fst cap] w (PlTo w B 32 zPl (failP s 52)):=by
 have hlt:=h.lt;have bw:Below w.heap.size w ((w.alloc (.cells zzP 57)).alloc (.cells zzP 57)):=((Below.refl _ w).alloc (yG _) _).alloc (by simp) _;have HPA:=hid (h.below bw)
 have R0:Box ((w.alloc (.cells zzP 57)).alloc (.cells zzP 57)) w.heap.size zzQ:=(Box.new w zzQ 57).alloc _
 have R1:Box ((w.alloc (.cells zzP 57)).alloc (.cells zzP 57)) (w.heap.size+1) zzQ:=by
  have:=Box.new (w.alloc (.cells zzP 57)) zzQ 57;rw[World.size_alloc]at this;exact this
 obtain ⟨_,_,_,_,sl,hb,_⟩:=h;obtain ⟨b0,b1,b2,b3,b4,b5,_⟩:=hb.six;clear hb;go_enter func54,ntmps54
 go_wp2_with (go_at_call 78;refine (zcc s 52 _ B 32 HPA.out).mono ?_;rintro e w1 ⟨rfl,hK,hP⟩;have S0:=R0.kept hK (by show ¬ w.heap.size=B;omega);have S1:=R1.kept hK (by show ¬ w.heap.size+1=B;omega);have c0:=S1.cl 0 _ rfl;have d0:=S0.cl 0 _ rfl;have f0:=S0.fr 0 (by simp);have c1:=S1.cl 1 _ rfl;have d1:=S0.cl 1 _ rfl;have f1:=S0.fr 1 (by simp);have c2:=S1.cl 2 _ rfl;have d2:=S0.cl 2 _ rfl;have f2:=S0.fr 2 (by simp);have c3:=S1.cl 3 _ rfl;have d3:=S0.cl 3 _ rfl;have f3:=S0.fr 3 (by simp);have c4:=S1.cl 4 _ rfl;have d4:=S0.cl 4 _ rfl;have f4:=S0.fr 4 (by simp);have c5:=S1.cl 5 _ rfl;have d5:=S0.cl 5 _ rfl;have f5:=S0.fr 5 (by simp);have c6:=S1.cl 6 _ rfl;have d6:=S0.cl 6 _ rfl;have f6:=S0.fr 6 (by simp);have c7:=S1.cl 7 _ rfl;have d7:=S0.cl 7 _ rfl;have f7:=S0.fr 7 (by simp);have c8:=S1.cl 8 _ rfl;have d8:=S0.cl 8 _ rfl;have f8:=S0.fr 8 (by simp);have c9:=S1.cl 9 _ rfl;have d9:=S0.cl 9 _ rfl;have f9:=S0.fr 9 (by simp);have c10:=S1.cl 10 _ rfl;have d10:=S0.cl 10 _ rfl;have f10:=S0.fr 10 (by simp);have c11:=S1.cl 11 _ rfl;have d11:=S0.cl 11 _ rfl;have f11:=S0.fr 11 (by simp);have c12:=S1.cl 12 _ rfl;have d12:=S0.cl 12 _ rfl;have f12:=S0.fr 12 (by simp);have c13:=S1.cl 13 _ rfl;have d13:=S0.cl 13 _ rfl;have f13:=S0.fr 13 (by simp);have c14:=S1.cl 14 _ rfl;have d14:=S0.cl 14 _ rfl;have f14:=S0.fr 14 (by simp);have c15:=S1.cl 15 _ rfl;have d15:=S0.cl 15 _ rfl;have f15:=S0.fr 15 (by simp))
 have SP:=S0.setN (vs:=zzQ) rfl;have p0:=SP.cl 0 _ rfl;have p1:=SP.cl 1 _ rfl;have p2:=SP.cl 2 _ rfl;have p3:=SP.cl 3 _ rfl;have p4:=SP.cl 4 _ rfl;have p5:=SP.cl 5 _ rfl;have p6:=SP.cl 6 _ rfl;have p7:=SP.cl 7 _ rfl;have p8:=SP.cl 8 _ rfl;have p9:=SP.cl 9 _ rfl;have p10:=SP.cl 10 _ rfl;have p11:=SP.cl 11 _ rfl;have p12:=SP.cl 12 _ rfl;have p13:=SP.cl 13 _ rfl;have p14:=SP.cl 14 _ rfl;have p15:=SP.cl 15 _ rfl
 have K2:=Kept.setN (B:=w.heap.size) (.inr (yG _)) zzQ 0 ((Kept.of_below (S:=fun b=>b=B) bw).trans hK);have K3:=Kept.setN (S:=fun b=>b=w.heap.size) (B:=w.heap.size) (.inl rfl) zzQ 0 (Kept.refl _ w1);dsimp only[setN]at K2 K3 p0 p1 p2 p3 p4 p5 p6 p7 p8 p9 p10 p11 p12 p13 p14 p15
 refine bodyPost_ret (by simp[results,results54,go_sem,p0,p1,p2,p3,p4,p5,p6,p7,p8,p9,p10,p11,p12,p13,p14,p15];try rfl) rfl ?_;exact ⟨none,0,0,none,0,0,none,0,0,none,0,0,none,0,0,none,0,0,none,0,0,rfl,zdl _ _,K2,hP.apart K3 hlt⟩
theorem zgw (F:FuncId) (hF:Enters Tryz.prog F) (fst cap:Array Value) (s:Ps) (x:Pl) (s':Ps) (w:World) (B d:Nat) (hd:d<32) (h:PAt w B d s)
 (H:∀ W,Kept (fun b=>b=B) w W→PAt W B (d+1) s→Calls Tryz.prog F (fst++cap) W (PlTo W B (d+1) x s')) :
 Calls Tryz.prog 54 #[.pointer (some ⟨B,0,none⟩),.func (.func F) fst cap] w (PlTo w B d x s'):=by
 have HH:=hid H;have hlt:=h.lt;have HP0:=hid h;obtain ⟨il,_,_,_,sl,hb,ht⟩:=h;have HT:=hid ht;have KW:Kept (fun b=>b=B) w (((w.setCell ⟨B,3,none⟩ (.int .i64 ((d:Int)+1))).alloc (.cells zzP 57)).alloc (.cells zzP 57)):=(((Kept.refl (fun b=>b=B) w).set ⟨B,3,none⟩ (.inl rfl) _).alloc _).alloc _
 have PW:Hid (PAt (((w.setCell ⟨B,3,none⟩ (.int .i64 ((d:Int)+1))).alloc (.cells zzP 57)).alloc (.cells zzP 57)) B (d+1) s):=HP0.out.turn (d':=d+1) HT.out KW il (by omega) (((hb.put 3 _).alloc _).alloc _)
 have R0:Box (((w.setCell ⟨B,3,none⟩ (.int .i64 ((d:Int)+1))).alloc (.cells zzP 57)).alloc (.cells zzP 57)) w.heap.size zzQ:=by
  have:=(Box.new (w.setCell ⟨B,3,none⟩ (.int .i64 ((d:Int)+1))) zzQ 57).alloc (.cells zzP 57);rw[World.size_setCell]at this;exact this
 have R1:Box (((w.setCell ⟨B,3,none⟩ (.int .i64 ((d:Int)+1))).alloc (.cells zzP 57)).alloc (.cells zzP 57)) (w.heap.size+1) zzQ:=by
  have:=Box.new ((w.setCell ⟨B,3,none⟩ (.int .i64 ((d:Int)+1))).alloc (.cells zzP 57)) zzQ 57;rw[World.size_alloc,World.size_setCell]at this;exact this
 obtain ⟨b0,b1,b2,b3,b4,b5,g1,g3,g4,g5⟩:=hb.six;have hdd:((d:Int) == 32)=false:=by simp;omega
 clear hb H ht;go_enter func54,ntmps54
 go_wp2_with fail
 have HZ:Hid (w.heap.size+2≤(((w.setCell ⟨B,3,none⟩ (.int .i64 ((d:Int)+1))).alloc (.cells zzP 57)).alloc (.cells zzP 57)).heap.size):=by show _≤_;simp
 generalize ((w.setCell ⟨B,3,none⟩ (.int .i64 ((d:Int)+1))).alloc (.cells zzP 57)).alloc (.cells zzP 57)=W1 at *
 have hC:=HH.out W1 KW PW.out;rw[hF,Oper.upon_enter];refine hC.mono ?_;rintro e w1 ⟨a0,n0,k0,a1,n1,k1,a2,n2,k2,a3,n3,k3,a4,n4,k4,a5,n5,k5,a6,n6,k6,rfl,hA,hK,hP⟩;have HA:=hid hA;have HK:=hid hK;have HP:=hid hP;obtain ⟨il',_,_,_,sl',hb',ht'⟩:=hP;have HT':=hid ht';have hb2:Box w1 B [sl',.int .i64 (s'.i:Int),.int .i64 (s'.E:Int),.int .i64 ((d:Int)+1),.int .i64 s'.e,.int .i64 (s'.a:Int)]:=hb';have S0:=R0.kept HK.out (by show ¬ w.heap.size=B;omega);have S1:=R1.kept HK.out (by show ¬ w.heap.size+1=B;omega);have hB1:B<w1.heap.size:=hb'.lt;clear b0 b1 b2 b3 b4 b5 g1 g3 g4 g5 hC hA hK ht' hb' R0 R1;obtain ⟨b0,b1,b2,b3,b4,b5,g1,g3,g4,g5⟩:=hb2.six;have c0:=S1.cl 0 _ rfl;have c1:=S1.cl 1 _ rfl;have c2:=S1.cl 2 _ rfl;have c3:=S1.cl 3 _ rfl;have c4:=S1.cl 4 _ rfl;have c5:=S1.cl 5 _ rfl;have c6:=S1.cl 6 _ rfl;have c7:=S1.cl 7 _ rfl;have c8:=S1.cl 8 _ rfl;have c9:=S1.cl 9 _ rfl
 have c10:=S1.cl 10 _ rfl;have c11:=S1.cl 11 _ rfl;have c12:=S1.cl 12 _ rfl;have c13:=S1.cl 13 _ rfl;have c14:=S1.cl 14 _ rfl;have c15:=S1.cl 15 _ rfl;have e0:=S1.fr 0 (by simp);have e1:=S1.fr 1 (by simp);have e2:=S1.fr 2 (by simp);have e3:=S1.fr 3 (by simp);have e4:=S1.fr 4 (by simp);have e5:=S1.fr 5 (by simp);have e6:=S1.fr 6 (by simp);have e7:=S1.fr 7 (by simp);have e8:=S1.fr 8 (by simp);have e9:=S1.fr 9 (by simp);have e10:=S1.fr 10 (by simp);have e11:=S1.fr 11 (by simp);have e12:=S1.fr 12 (by simp);have e13:=S1.fr 13 (by simp);have e14:=S1.fr 14 (by simp);have e15:=S1.fr 15 (by simp);go_upto_region 7 with (fail)
 have Q0:=S0.otherN (C:=w.heap.size+1) (by omega) [.int .i64 x.k,.string ⟨x.nm.toArray⟩,.slice a0 n0 k0,.int .i64 x.cond.k,.string ⟨x.cond.nm.toArray⟩,.int .i64 x.cond.v.k,.int .i64 x.cond.v.n,.string ⟨x.cond.v.t.toArray⟩,.string ⟨x.cond.op.toArray⟩,.slice a1 n1 k1,.slice a2 n2 k2,.slice a3 n3 k3,.slice a4 n4 k4,.slice a5 n5 k5,.slice a6 n6 k6,.int .i64 x.cnt] 0;have Q1:=S1.setN (vs:=[.int .i64 x.k,.string ⟨x.nm.toArray⟩,.slice a0 n0 k0,.int .i64 x.cond.k,.string ⟨x.cond.nm.toArray⟩,.int .i64 x.cond.v.k,.int .i64 x.cond.v.n,.string ⟨x.cond.v.t.toArray⟩,.string ⟨x.cond.op.toArray⟩,.slice a1 n1 k1,.slice a2 n2 k2,.slice a3 n3 k3,.slice a4 n4 k4,.slice a5 n5 k5,.slice a6 n6 k6,.int .i64 x.cnt]) rfl
 have QB:=hb2.otherN (C:=w.heap.size+1) (by omega) [.int .i64 x.k,.string ⟨x.nm.toArray⟩,.slice a0 n0 k0,.int .i64 x.cond.k,.string ⟨x.cond.nm.toArray⟩,.int .i64 x.cond.v.k,.int .i64 x.cond.v.n,.string ⟨x.cond.v.t.toArray⟩,.string ⟨x.cond.op.toArray⟩,.slice a1 n1 k1,.slice a2 n2 k2,.slice a3 n3 k3,.slice a4 n4 k4,.slice a5 n5 k5,.slice a6 n6 k6,.int .i64 x.cnt] 0;have QK:=Kept.setN (S:=fun b=>b=w.heap.size+1) (B:=w.heap.size+1) (.inl rfl) [.int .i64 x.k,.string ⟨x.nm.toArray⟩,.slice a0 n0 k0,.int .i64 x.cond.k,.string ⟨x.cond.nm.toArray⟩,.int .i64 x.cond.v.k,.int .i64 x.cond.v.n,.string ⟨x.cond.v.t.toArray⟩,.string ⟨x.cond.op.toArray⟩,.slice a1 n1 k1,.slice a2 n2 k2,.slice a3 n3 k3,.slice a4 n4 k4,.slice a5 n5 k5,.slice a6 n6 k6,.int .i64 x.cnt] 0 (Kept.refl _ w1);have QS:=QK.size;dsimp only[setN]at Q0 Q1 QB QK QS;have HQK:=hid QK
 clear b0 b1 b2 b3 b4 b5 g1 g3 g4 g5 c0 e0 c1 e1 c2 e2 c3 e3 c4 e4 c5 e5 c6 e6 c7 e7 c8 e8 c9 e9 c10 e10 c11 e11 c12 e12 c13 e13 c14 e14 c15 e15 S0 S1 hb2 QK
 generalize (((((((((((((((w1.setCell ⟨w.heap.size+1,0,none⟩ (.int .i64 x.k)).setCell ⟨w.heap.size+1,1,none⟩ (.string ⟨x.nm.toArray⟩)).setCell ⟨w.heap.size+1,2,none⟩ (.slice a0 n0 k0)).setCell ⟨w.heap.size+1,3,none⟩ (.int .i64 x.cond.k)).setCell ⟨w.heap.size+1,4,none⟩ (.string ⟨x.cond.nm.toArray⟩)).setCell ⟨w.heap.size+1,5,none⟩ (.int .i64 x.cond.v.k)).setCell ⟨w.heap.size+1,6,none⟩ (.int .i64 x.cond.v.n)).setCell ⟨w.heap.size+1,7,none⟩ (.string ⟨x.cond.v.t.toArray⟩)).setCell ⟨w.heap.size+1,8,none⟩ (.string ⟨x.cond.op.toArray⟩)).setCell ⟨w.heap.size+1,9,none⟩ (.slice a1 n1 k1)).setCell ⟨w.heap.size+1,10,none⟩ (.slice a2 n2 k2)).setCell ⟨w.heap.size+1,11,none⟩ (.slice a3 n3 k3)).setCell ⟨w.heap.size+1,12,none⟩ (.slice a4 n4 k4)).setCell ⟨w.heap.size+1,13,none⟩ (.slice a5 n5 k5)).setCell ⟨w.heap.size+1,14,none⟩ (.slice a6 n6 k6)).setCell ⟨w.heap.size+1,15,none⟩ (.int .i64 x.cnt)=w2 at *
 obtain ⟨b0,b1,b2,b3,b4,b5,g1,g3,g4,g5⟩:=QB.six;go_upto_region 8 with (fail)
 have Q0':=Q0.other (C:=B) (by omega) 3 (.int .i64 (d:Int));have Q1':=Q1.other (C:=B) (by omega) 3 (.int .i64 (d:Int));have QB':=QB.put 3 (.int .i64 (d:Int));have QK':=(Kept.refl (fun b=>b=B) w2).set ⟨B,3,none⟩ (.inl rfl) (.int .i64 (d:Int));have HQK':=hid QK';have QS':w1.heap.size≤(w2.setCell ⟨B,3,none⟩ (.int .i64 (d:Int))).heap.size:=yH QS QK'.size;clear b0 b1 b2 b3 b4 b5 g1 g3 g4 g5 Q0 Q1 QB QK' QS;generalize w2.setCell ⟨B,3,none⟩ (.int .i64 (d:Int))=w3 at *
 have c0:=Q1'.cl 0 _ rfl;have c1:=Q1'.cl 1 _ rfl;have c2:=Q1'.cl 2 _ rfl;have c3:=Q1'.cl 3 _ rfl;have c4:=Q1'.cl 4 _ rfl;have c5:=Q1'.cl 5 _ rfl;have c6:=Q1'.cl 6 _ rfl;have c7:=Q1'.cl 7 _ rfl;have c8:=Q1'.cl 8 _ rfl;have c9:=Q1'.cl 9 _ rfl;have c10:=Q1'.cl 10 _ rfl;have c11:=Q1'.cl 11 _ rfl;have c12:=Q1'.cl 12 _ rfl;have c13:=Q1'.cl 13 _ rfl;have c14:=Q1'.cl 14 _ rfl;have c15:=Q1'.cl 15 _ rfl;have d0:=Q0'.cl 0 _ rfl;have d1:=Q0'.cl 1 _ rfl;have d2:=Q0'.cl 2 _ rfl;have d3:=Q0'.cl 3 _ rfl;have d4:=Q0'.cl 4 _ rfl;have d5:=Q0'.cl 5 _ rfl;have d6:=Q0'.cl 6 _ rfl;have d7:=Q0'.cl 7 _ rfl;have d8:=Q0'.cl 8 _ rfl;have d9:=Q0'.cl 9 _ rfl;have d10:=Q0'.cl 10 _ rfl;have d11:=Q0'.cl 11 _ rfl;have d12:=Q0'.cl 12 _ rfl;have d13:=Q0'.cl 13 _ rfl;have d14:=Q0'.cl 14 _ rfl;have d15:=Q0'.cl 15 _ rfl;have f0:=Q0'.fr 0 (by simp);have f1:=Q0'.fr 1 (by simp);have f2:=Q0'.fr 2 (by simp)
 have f3:=Q0'.fr 3 (by simp);have f4:=Q0'.fr 4 (by simp);have f5:=Q0'.fr 5 (by simp);have f6:=Q0'.fr 6 (by simp);have f7:=Q0'.fr 7 (by simp);have f8:=Q0'.fr 8 (by simp);have f9:=Q0'.fr 9 (by simp);have f10:=Q0'.fr 10 (by simp);have f11:=Q0'.fr 11 (by simp);have f12:=Q0'.fr 12 (by simp);have f13:=Q0'.fr 13 (by simp);have f14:=Q0'.fr 14 (by simp);have f15:=Q0'.fr 15 (by simp);go_wp2_with fail
 have SP:=Q0'.setN (vs:=[.int .i64 x.k,.string ⟨x.nm.toArray⟩,.slice a0 n0 k0,.int .i64 x.cond.k,.string ⟨x.cond.nm.toArray⟩,.int .i64 x.cond.v.k,.int .i64 x.cond.v.n,.string ⟨x.cond.v.t.toArray⟩,.string ⟨x.cond.op.toArray⟩,.slice a1 n1 k1,.slice a2 n2 k2,.slice a3 n3 k3,.slice a4 n4 k4,.slice a5 n5 k5,.slice a6 n6 k6,.int .i64 x.cnt]) rfl;have p0:=SP.cl 0 _ rfl;have p1:=SP.cl 1 _ rfl;have p2:=SP.cl 2 _ rfl;have p3:=SP.cl 3 _ rfl;have p4:=SP.cl 4 _ rfl;have p5:=SP.cl 5 _ rfl;have p6:=SP.cl 6 _ rfl;have p7:=SP.cl 7 _ rfl;have p8:=SP.cl 8 _ rfl;have p9:=SP.cl 9 _ rfl;have p10:=SP.cl 10 _ rfl;have p11:=SP.cl 11 _ rfl;have p12:=SP.cl 12 _ rfl;have p13:=SP.cl 13 _ rfl;have p14:=SP.cl 14 _ rfl;have p15:=SP.cl 15 _ rfl
 have K3:=Kept.setN (S:=fun b=>b=w.heap.size) (B:=w.heap.size) (.inl rfl) [.int .i64 x.k,.string ⟨x.nm.toArray⟩,.slice a0 n0 k0,.int .i64 x.cond.k,.string ⟨x.cond.nm.toArray⟩,.int .i64 x.cond.v.k,.int .i64 x.cond.v.n,.string ⟨x.cond.v.t.toArray⟩,.string ⟨x.cond.op.toArray⟩,.slice a1 n1 k1,.slice a2 n2 k2,.slice a3 n3 k3,.slice a4 n4 k4,.slice a5 n5 k5,.slice a6 n6 k6,.int .i64 x.cnt] 0 (Kept.refl _ w3);have QZ:=QB'.otherN (C:=w.heap.size) (by omega) [.int .i64 x.k,.string ⟨x.nm.toArray⟩,.slice a0 n0 k0,.int .i64 x.cond.k,.string ⟨x.cond.nm.toArray⟩,.int .i64 x.cond.v.k,.int .i64 x.cond.v.n,.string ⟨x.cond.v.t.toArray⟩,.string ⟨x.cond.op.toArray⟩,.slice a1 n1 k1,.slice a2 n2 k2,.slice a3 n3 k3,.slice a4 n4 k4,.slice a5 n5 k5,.slice a6 n6 k6,.int .i64 x.cnt] 0;dsimp only[setN]at K3 QZ p0 p1 p2 p3 p4 p5 p6 p7 p8 p9 p10 p11 p12 p13 p14 p15
 refine bodyPost_ret (by simp[results,results54,go_sem,p0,p1,p2,p3,p4,p5,p6,p7,p8,p9,p10,p11,p12,p13,p14,p15];try rfl) rfl ?_;have KA:=((HQK.out.mono (S':=fun b=>b=B∨b=w.heap.size+1∨b=w.heap.size) (fun _ _ h=>.inr (.inl h))).trans (HQK'.out.mono fun _ _ h=>.inl h)).trans (K3.mono fun _ _ h=>.inr (.inr h));have KT:=(KW.trans HK.out).then KA fun k hk h=>by
  rcases h with h|h|h
  ·exact h
  ·omega
  ·omega
 have hA:=HA.out;refine ⟨a0,n0,k0,a1,n1,k1,a2,n2,k2,a3,n3,k3,a4,n4,k4,a5,n5,k5,a6,n6,k6,rfl,hA.both KA (fun b hb hw h=>?_) (fun b _ hw=>?_),KT,?_⟩
 ·have:=HZ.out;rcases h with h|h|h<;>omega
 ·have:=HZ.out;omega
 ·obtain ⟨_,tl,_,hn,_⟩:=HP.out;exact ⟨il',tl,by omega,hn,sl',QZ,HT'.out.kept KA fun k h=>by rcases h with h|h|h<;>omega⟩
theorem _root_.Go.Proofs.YtonkjhmkppeagaaGreatDoor.Ba.Box.seven {W:World} {B:Nat} {a b c d e f g:Value} (h:Box W B [a,b,c,d,e,f,g]):W.cell? ⟨B,0,none⟩=some a∧W.cell? ⟨B,1,none⟩=some b∧W.cell? ⟨B,2,none⟩=some c∧W.cell? ⟨B,3,none⟩=some d∧W.cell? ⟨B,4,none⟩=some e∧W.cell? ⟨B,5,none⟩=some f∧W.cell? ⟨B,6,none⟩=some g :=
 ⟨h.cl 0 _ rfl,h.cl 1 _ rfl,h.cl 2 _ rfl,h.cl 3 _ rfl,h.cl 4 _ rfl,h.cl 5 _ rfl,h.cl 6 _ rfl⟩
theorem _root_.Go.Proofs.YtonkjhmkppeagaaGreatDoor.Ba.Box.free7 {W:World} {B:Nat} {a b c d e f g:Value} (h:Box W B [a,b,c,d,e,f,g]):W.frozen? ⟨B,0,none⟩=false∧W.frozen? ⟨B,1,none⟩=false∧W.frozen? ⟨B,2,none⟩=false∧W.frozen? ⟨B,3,none⟩=false∧W.frozen? ⟨B,4,none⟩=false∧W.frozen? ⟨B,5,none⟩=false∧W.frozen? ⟨B,6,none⟩=false :=
 ⟨h.fr 0 (by simp),h.fr 1 (by simp),h.fr 2 (by simp),h.fr 3 (by simp),h.fr 4 (by simp),h.fr 5 (by simp),h.fr 6 (by simp)⟩
theorem PAt.drew {w:World} {B d:Nat} {s:Ps} (h:PAt w B d s):PAt w.drew B d s:=by
 obtain ⟨h1,h2,h3,h4,sl,hb,ht⟩:=h;exact ⟨h1,h2,h3,h4,sl,hb.drew,ht.kept (S:=fun _=>False) ((Kept.refl _ w).drew) fun _ h=>h.elim⟩
theorem zhO {α:Type} (F:FuncId) (hF:Enters Tryz.prog F) (fst cap:Array Value) (f:α→Ps→α×Ps) (I J:World→α→Ps→Prop) (B d:Nat)
 (hP:∀ W a s,J W a s→PAt W B d s) (hP0:∀ W a s,I W a s→PAt W B d s) (hK:∀ W W' a s,J W a s→Kept (fun b=>b=B) W W'→PAt W' B d s→J W' a s)
 (hKI:∀ W W' a s,J W a s→Kept (fun b=>b=B) W W'→PAt W' B d (advP s)→I W' a (advP s)) (hG:∀ a s,Goes s (f a s).2)
 (hC:∀ W a s,I W a s→Calls Tryz.prog F (fst++cap) W fun e W'=>e=.returned (.tuple #[])∧J W' (f a s).1 (f a s).2) (a:α) (s:Ps) (w:World) (h:I w a s) :
 Calls Tryz.prog 110 #[.pointer (some ⟨B,0,none⟩),.func (.func F) fst cap] w fun e w'=>e=.returned (.tuple #[])∧J w' (listP f a s).1 (listP f a s).2:=by
 have HP:=hid hP;have HK:=hid hK;have HKI:=hid hKI;have HG:=hid hG;have HC:=hid hC;have HI:=hid h;have htl:=(hP0 _ _ _ h).tl;have hil:=(hP0 _ _ _ h).il;have HL:Hid (listP f a s=zaQ f (s.T.length+1) (f a s).1 (f a s).2):=rfl;have HTT:Hid ((f a s).2.T=s.T):=(hG a s).T;clear hP hP0 hK hKI hG hC h;go_enter func110,ntmps110
 go_wp2_with fail
 rw[hF,Oper.upon_enter];refine (HC.out _ _ _ HI.out).mono ?_;rintro e w1 ⟨rfl,hI1⟩;have HI1:=hid hI1;clear hI1;go_wp2_with fail
 go_loopg [] s.T.length (fun kx wr=>∃ (a1:_) (s1:Ps) (fuel:Nat),Hid (J wr a1 s1)∧Hid (listP f a s=zaQ f fuel a1 s1)∧Hid (s1.T=s.T)∧s.T.length<fuel+s1.i∧s.T.length≤kx+s1.i)
 case atStart=>exact ⟨(f a s).1,(f a s).2,s.T.length+1,HI1,HL,HTT,by omega,by omega⟩
 case round =>
  obtain ⟨a1,s1,fuel,HI2,HL2,HT2,hfu,hkx⟩:=hrel;have hp:=HP.out _ _ _ HI2.out;have hil2:=hp.il;rw[HT2.out]at hil2
  cases hx:isP s1 [44] with
  | true =>
   have hm:=zbO s1 [44] hx _ B d hp;have hlt:=(zbU hx).2;rw[HT2.out]at hlt;obtain ⟨fu,rfl⟩:∃ fu,fuel=fu+1:=⟨fuel-1,by omega⟩;have HL3:Hid (listP f a s=zaQ f fu (f a1 (advP s1)).1 (f a1 (advP s1)).2):=by
    show listP f a s=_
    rw[HL2.out,zcI hx]
   have HT3:Hid ((f a1 (advP s1)).2.T=s.T):=(HG.out a1 (advP s1)).T.trans HT2.out;have hgi:=(HG.out a1 (advP s1)).i;have hle3:(f a1 (advP s1)).2.i≤s.T.length:=by
    have:=(HG.out a1 (advP s1)).le (by show s1.i+1≤(advP s1).T.length;rw[show (advP s1).T=s1.T from rfl,HT2.out];exact hlt);rw[show (advP s1).T=s1.T from rfl,HT2.out]at this;exact this
   have hgi2:s1.i+1≤(f a1 (advP s1)).2.i:=hgi;have HM:=hid hm;clear hx hm hgi hp;go_wp2_with (go_at_call 88;refine HM.out.mono ?_;rintro e w2 ⟨rfl,hK2,hP2⟩)
   rw[hF,Oper.upon_enter];refine (HC.out _ _ _ (HKI.out _ _ _ _ HI2.out hK2 hP2)).mono ?_;rintro e w3 ⟨rfl,hI3⟩;have HI3:=hid hI3;clear hI3 hK2 hP2;go_wp2_with fail
   go_roundg (s.T.length-(f a1 (advP s1)).2.i)
   case measure=>omega
   case rel=>exact ⟨_,_,fu,HI3,HL3,HT3,by omega,by omega⟩
  | false =>
   have HL3:Hid (listP f a s=(a1,s1)):=by
    show listP f a s=_
    rw[HL2.out,zdG hx]
   have HM:=hid (zbg s1 [44] hx _ B d hp);clear hx hp;go_wp2_with (go_at_call 88;refine HM.out.mono ?_;rintro e w2 ⟨rfl,hK2,hP2⟩)
   go_end0
   rw[HL3.out];exact ⟨rfl,HK.out _ _ _ _ HI2.out hK2 hP2⟩
def ZBox (W:World) (B:Nat):Prop:=Box W B zzL
theorem zeZ (F:FuncId) (hF:Enters Tryz.prog F) (fst cap:Array Value) (f:PE) (hG:GoesE f) (ops:List Str) (B d:Nat)
 (hC:∀ W s,PAt W B d s→Calls Tryz.prog F (fst++cap) W (ExTo W B d (f s).1 (f s).2)) (s:Ps) (v:Value) (w:World) (hl:ops.length≤100) (h:PAt w B d s) (hv:OpsAt w B v ops) :
 Calls Tryz.prog 104 #[.pointer (some ⟨B,0,none⟩),.func (.func F) fst cap,v] w (ExTo w B d (zaA f ops s).1 (zaA f ops s).2):=by
 have HC:=hid hC;have HG:=hid hG;have HPA:=hid h;have HOA:=hid hv;have hlt:=h.lt;have htl:=h.tl;have hil:=h.il;obtain ⟨g,cp,rfl,o2,o3,o4,o5,o6⟩:=hv;have HO6:=hid o6;obtain ⟨n,hn⟩:∃ n,ops.length=n:=⟨_,rfl⟩;rw[hn]at hl o2 HOA ⊢;have HN:=hid hn;have HL:Hid (zaA f ops s=zaM f ops (s.T.length+1) (f s).1 (f s).2):=rfl;have HTT:Hid ((f s).2.T=s.T):=(hG s).T;have hgi:=(hG s).i;have bw:=(Below.refl w.heap.size w).alloc (yG _) (.cells zzA 27);have R0:=Box.new w zzL 27
 have HZ0:Hid (w.heap.size+1≤(w.alloc (.cells zzA 27)).heap.size):=by show _≤_;simp
 clear hC hG h o6 hn;go_enter func104,ntmps104
 go_wp2_with fail
 generalize w.alloc (.cells zzA 27)=W0 at *
 rw[hF,Oper.upon_enter];refine (HC.out W0 s (HPA.out.below bw)).mono ?_;rintro e w1 ⟨ao,cp1,rfl,hA,hK,hP⟩;have R1:=R0.kept hK (by show ¬ w.heap.size=B;omega);have hz1:w.heap.size+1≤w1.heap.size:=by have:=HZ0.out;have:=hK.size;omega
 have HIN:Hid (Box (w1.alloc (.cells #[.int .i64 (f s).1.k,.string ⟨(f s).1.nm.toArray⟩,.int .i64 (f s).1.v.k,.int .i64 (f s).1.v.n,.string ⟨(f s).1.v.t.toArray⟩,.string ⟨(f s).1.op.toArray⟩,.slice ao (f s).1.xs.length cp1] 27)) w1.heap.size [.int .i64 (f s).1.k,.string ⟨(f s).1.nm.toArray⟩,.int .i64 (f s).1.v.k,.int .i64 (f s).1.v.n,.string ⟨(f s).1.v.t.toArray⟩,.string ⟨(f s).1.op.toArray⟩,.slice ao (f s).1.xs.length cp1]∧
  XArgs (w1.alloc (.cells #[.int .i64 (f s).1.k,.string ⟨(f s).1.nm.toArray⟩,.int .i64 (f s).1.v.k,.int .i64 (f s).1.v.n,.string ⟨(f s).1.v.t.toArray⟩,.string ⟨(f s).1.op.toArray⟩,.slice ao (f s).1.xs.length cp1] 27)) (fun b=>w.heap.size<b∧b≠w1.heap.size) (.slice ao (f s).1.xs.length cp1) (f s).1.xs∧
  Kept (fun b=>b=B) w (w1.alloc (.cells #[.int .i64 (f s).1.k,.string ⟨(f s).1.nm.toArray⟩,.int .i64 (f s).1.v.k,.int .i64 (f s).1.v.n,.string ⟨(f s).1.v.t.toArray⟩,.string ⟨(f s).1.op.toArray⟩,.slice ao (f s).1.xs.length cp1] 27))∧
  PAt (w1.alloc (.cells #[.int .i64 (f s).1.k,.string ⟨(f s).1.nm.toArray⟩,.int .i64 (f s).1.v.k,.int .i64 (f s).1.v.n,.string ⟨(f s).1.v.t.toArray⟩,.string ⟨(f s).1.op.toArray⟩,.slice ao (f s).1.xs.length cp1] 27)) B d (f s).2∧
  ZBox (w1.alloc (.cells #[.int .i64 (f s).1.k,.string ⟨(f s).1.nm.toArray⟩,.int .i64 (f s).1.v.k,.int .i64 (f s).1.v.n,.string ⟨(f s).1.v.t.toArray⟩,.string ⟨(f s).1.op.toArray⟩,.slice ao (f s).1.xs.length cp1] 27)) w.heap.size):=by
  refine ⟨Box.new w1 [_,_,_,_,_,_,_] 27,hA.both (Kept.of_below (S:=fun _=>False) ((Below.refl _ w1).alloc (yG _) _)) (fun _ _ _ h=>h) (fun b hb hb2=>⟨by have:=HZ0.out;omega,by omega⟩),((Kept.of_below bw).trans hK).alloc _,hP.below ((Below.refl _ w1).alloc (yG _) _),R1.alloc _⟩
 have HKW:=hid hz1;clear hA hK hP R0 R1 bw;obtain ⟨T,hT⟩:∃ T,w1.heap.size=T:=⟨_,rfl⟩;rw[hT]at HIN hz1 HKW;go_wp2_with fail
 try rw[hT]
 clear hT;go_loopg [] s.T.length (fun kx wr=>∃ (x1:Ex) (s1:Ps) (ao1:Option Addr) (cp1:Nat) (fuel:Nat),Hid (Box wr T [.int .i64 x1.k,.string ⟨x1.nm.toArray⟩,.int .i64 x1.v.k,.int .i64 x1.v.n,.string ⟨x1.v.t.toArray⟩,.string ⟨x1.op.toArray⟩,.slice ao1 x1.xs.length cp1])∧Hid (XArgs wr (fun b=>w.heap.size<b∧b≠T) (.slice ao1 x1.xs.length cp1) x1.xs)∧Hid (Kept (fun b=>b=B) w wr)∧Hid (PAt wr B d s1)∧Hid (ZBox wr w.heap.size)∧
  Hid (zaA f ops s=zaM f ops fuel x1 s1)∧Hid (s1.T=s.T)∧s.T.length<fuel+s1.i∧s.T.length≤kx+s1.i)
 case atStart=>exact ⟨(f s).1,(f s).2,ao,cp1,s.T.length+1,HIN.out.1,HIN.out.2.1,HIN.out.2.2.1,HIN.out.2.2.2.1,HIN.out.2.2.2.2,HL,HTT,by omega,by omega⟩
 case round =>
  clear HIN;obtain ⟨x1,s1,ao1,cp1,fuel,R1,XA,KW,P1,Z1,HL1,HT1,hfu,hkx⟩:=hrel;have hp:=P1.out;have hil2:=hp.il;rw[HT1.out]at hil2
  cases hf:zaD ops s1 with
  | none =>
   have HL3:Hid (zaA f ops s=(x1,s1)):=by
    show zaA f ops s=_
    rw[HL1.out,zdx hf]
   have hidx:=zeU ops s1 none hf _ _ B d (by rw[HN.out];exact hl) hp (HOA.out.kept KW.out);unfold zgA at hidx;dsimp only at hidx;have HM:=hid hidx;have hTlt:=R1.out.lt;clear hf hidx hp;go_wp2_with (go_at_call 139;refine HM.out.mono ?_;rintro e w2 ⟨rfl,hK2,hP2⟩;have R2:=R1.out.kept hK2 (by show ¬ T=B;omega);have Z2:Box w2 w.heap.size zzL:=Box.kept Z1.out hK2 (by show ¬ w.heap.size=B;omega);obtain ⟨y0,y1,y2,y3,y4,y5,y6⟩:=R2.seven;obtain ⟨z0,z1,z2,z3,z4,z5,z6⟩:=Z2.seven;obtain ⟨f0,f1,f2,f3,f4,f5,f6⟩:=Z2.free7)
   have SP:=Z2.setN (vs:=[.int .i64 x1.k,.string ⟨x1.nm.toArray⟩,.int .i64 x1.v.k,.int .i64 x1.v.n,.string ⟨x1.v.t.toArray⟩,.string ⟨x1.op.toArray⟩,.slice ao1 x1.xs.length cp1]) rfl;have K3:=Kept.setN (S:=fun b=>b=w.heap.size) (B:=w.heap.size) (.inl rfl) [.int .i64 x1.k,.string ⟨x1.nm.toArray⟩,.int .i64 x1.v.k,.int .i64 x1.v.n,.string ⟨x1.v.t.toArray⟩,.string ⟨x1.op.toArray⟩,.slice ao1 x1.xs.length cp1] 0 (Kept.refl _ w2);dsimp only[setN]at SP K3;obtain ⟨p0,p1,p2,p3,p4,p5,p6⟩:=SP.seven;refine bodyPost_ret (by simp[results,results104,go_sem,p0,p1,p2,p3,p4,p5,p6];try rfl) rfl ?_;rw[HL3.out];exact ⟨ao1,cp1,rfl,((XA.out.kept hK2 (fun b _ hb e=>by have e':b=B:=e;omega)).both K3 (fun b _ hb e=>by have e':b=w.heap.size:=e;omega) (fun b _ hb=>by omega)),(KW.out.trans hK2).then K3 (fun k hk e=>by have e':k=w.heap.size:=e;omega),hP2.apart K3 hlt⟩
  | some k =>
   obtain ⟨oo,hoo,hox⟩:=zbA hf;have hk:=(zbv hf).1;rw[HN.out]at hk;have hlt2:=(zbU hox).2;rw[HT1.out]at hlt2;obtain ⟨fu,rfl⟩:∃ fu,fuel=fu+1:=⟨fuel-1,by omega⟩;have HL3:Hid (zaA f ops s=zaM f ops fu (zaj oo x1 (f (advP s1)).1) (f (advP s1)).2):=by
    show zaA f ops s=_
    rw[HL1.out,zcV hf,List.getD_eq_getElem?_getD,hoo];rfl
   have HT3:Hid ((f (advP s1)).2.T=s.T):=(HG.out (advP s1)).T.trans HT1.out;have hgi2:s1.i+1≤(f (advP s1)).2.i:=(HG.out (advP s1)).i;have hle3:(f (advP s1)).2.i≤s.T.length:=by
    have:=(HG.out (advP s1)).le (by show s1.i+1≤(advP s1).T.length;rw[show (advP s1).T=s1.T from rfl,HT1.out];exact hlt2);rw[show (advP s1).T=s1.T from rfl,HT1.out]at this;exact this
   have hidx:=zeU ops s1 (some k) hf _ _ B d (by rw[HN.out];exact hl) hp (HOA.out.kept KW.out);unfold zgA at hidx;dsimp only at hidx;have HM:=hid hidx;have HOK:=hid (HO6.out k oo hoo);clear hf hidx hp hoo hox;go_wp2_with (go_at_call 139;refine HM.out.mono ?_;rintro e w2 ⟨rfl,hK2,hP2⟩)
   have R2':=(R1.out.kept hK2 (by show ¬ T=B;omega)).drew;have Z2':=(Box.kept Z1.out hK2 (by show ¬ w.heap.size=B;omega)).drew;have XA2':=(XA.out.kept hK2 (fun b _ hb e=>by have e':b=B:=e;omega)).kept (S:=fun _=>False) (Kept.refl _ w2).drew (fun _ _ _ h=>h);have KW2':=(KW.out.trans hK2).drew;have P2':=hP2.drew;have og':w2.drew.cell? ⟨g,k,none⟩=some (.string ⟨oo.toArray⟩):=(kcell KW2' o5 (by show ¬ g=B;omega)).trans HOK.out
   refine zaa 8 (S:=fun W=>(W.cell? ⟨g,k,none⟩=some (.string ⟨oo.toArray⟩)∧W.cell? ⟨T,0,none⟩=some (.int .i64 x1.k)∧W.cell? ⟨T,1,none⟩=some (.string ⟨x1.nm.toArray⟩)∧W.cell? ⟨T,2,none⟩=some (.int .i64 x1.v.k)∧W.cell? ⟨T,3,none⟩=some (.int .i64 x1.v.n)∧W.cell? ⟨T,4,none⟩=some (.string ⟨x1.v.t.toArray⟩)∧W.cell? ⟨T,5,none⟩=some (.string ⟨x1.op.toArray⟩)∧W.cell? ⟨T,6,none⟩=some (.slice ao1 x1.xs.length cp1))) (by kernel_rfl) (by exact ⟨og',R2'.seven⟩) (fun zJ=>?_);generalize w2.drew=W2 at *
   have R2:=R2';have XA2:=hid XA2';have KW2:=hid KW2';have P2:=hid P2';have Z2:=hid Z2';have og:=og';have hgl:g<W2.heap.size:=Nat.lt_of_lt_of_le o5 KW2'.size;have hz2:Hid (w.heap.size+1≤W2.heap.size):=by show _≤_;have:=R2.lt;omega
   have hTlt:=R2.lt;clear hK2 hP2 R2' Z2' XA2' KW2' P2' og' HM;refine tKm 0 ?_;refine tKm 1 ?_;refine tKm 2 ?_;refine tKm 3 ?_;refine tKm 4 ?_;refine tKm 5 ?_;refine rK1 6 fun K hK=>?_
   go_simp;rw[hF,Oper.upon_enter];refine (HC.out _ _ P2.out).mono ?_;rintro e w3 ⟨ao3,cp3,rfl,hA3,hK3,hP3⟩;have R3:=R2.kept hK3 (by show ¬ T=B;omega);have O3:=kcell (o:=k) hK3 hgl (by show ¬ g=B;omega);try dsimp only
   refine hK.out _ _ ?_ (fun zH=>?_)
   ·exact ⟨O3.trans og,R3.seven⟩
   replace zJ:=zH;clear hK K;refine rK1 7 fun K hK=>?_
   go_simp;go_at_call 140;refine (zho oo x1 (f (advP s1)).1 (.slice ao1 x1.xs.length cp1) (.slice ao3 (f (advP s1)).1.xs.length cp3) w3 (fun b=>w.heap.size<b∧b≠T) (XA2.out.kept hK3 (fun b _ hb e=>by have e':b=B:=e;omega)) (hA3.weak fun b hb hb2=>⟨by have:=hz2.out;omega,by have:=R2.lt;have:=hz2.out;omega⟩)).mono ?_;rintro e w4 ⟨ao4,cp4,rfl,hA4,hb4⟩;have R4:=R3.next hb4;have O4:=hb4.cell (p:=⟨g,k,none⟩) (Nat.lt_of_lt_of_le hgl hK3.size);obtain ⟨y0,y1,y2,y3,y4,y5,y6⟩:=R4.seven;obtain ⟨f0,f1,f2,f3,f4,f5,f6⟩:=R4.free7;try dsimp only
   refine hK.out _ _ ?_ (fun zH=>?_)
   ·exact ⟨O4.trans (O3.trans og),R4.seven⟩
   replace zJ:=zH;clear hK K;refine rKl 8 fun K hK=>?_
   go_simp;try dsimp only
   refine hK.out _ _ ?_;clear hK K;refine rKd ?_;go_wp2_with fail
   have SP:=R4.setN (vs:=[.int .i64 (zaj oo x1 (f (advP s1)).1).k,.string ⟨(zaj oo x1 (f (advP s1)).1).nm.toArray⟩,.int .i64 (zaj oo x1 (f (advP s1)).1).v.k,.int .i64 (zaj oo x1 (f (advP s1)).1).v.n,.string ⟨(zaj oo x1 (f (advP s1)).1).v.t.toArray⟩,.string ⟨(zaj oo x1 (f (advP s1)).1).op.toArray⟩,.slice ao4 (zaj oo x1 (f (advP s1)).1).xs.length cp4]) rfl;have K5:=Kept.setN (S:=fun b=>b=T) (B:=T) (.inl rfl) [.int .i64 (zaj oo x1 (f (advP s1)).1).k,.string ⟨(zaj oo x1 (f (advP s1)).1).nm.toArray⟩,.int .i64 (zaj oo x1 (f (advP s1)).1).v.k,.int .i64 (zaj oo x1 (f (advP s1)).1).v.n,.string ⟨(zaj oo x1 (f (advP s1)).1).v.t.toArray⟩,.string ⟨(zaj oo x1 (f (advP s1)).1).op.toArray⟩,.slice ao4 (zaj oo x1 (f (advP s1)).1).xs.length cp4] 0 (Kept.refl _ w4);dsimp only[setN]at SP K5;go_roundg (s.T.length-(f (advP s1)).2.i)
   case measure=>omega
   case rel=>exact ⟨zaj oo x1 (f (advP s1)).1,(f (advP s1)).2,ao4,cp4,fu,SP,hA4.both K5 (fun b hb ho e=>by have e':b=T:=e;rcases ho with ho|ho;exact ho.2 e';have:=R3.lt;omega) (fun b hb ho=>by rcases ho with ho|ho;exact ho;have:=R3.lt;have:=hK3.size;have:=hz2.out;exact ⟨by omega,by omega⟩),((KW2.out.trans hK3).behind hb4).then K5 (fun k hk e=>by have e':k=T:=e;omega),(hP3.below hb4).apart K5 (by omega),Box.kept (Box.next (Box.kept Z2.out hK3 (by show ¬ w.heap.size=B;omega)) hb4) K5 (by show ¬ w.heap.size=T;omega),HL3,HT3,by omega,by omega⟩
end Go.Proofs.YtonkjhmkppeagaaGreatDoor.Pz
namespace Go.Proofs.YtonkjhmkppeagaaGreatDoor.Pz
open Go.Proofs.Tryz
open Go.Lib (hid)
open Go.RowKit Go Ba
theorem zhY (xs:List (List Value)) (k:Nat) (h:∀ x∈xs,x.length=k):xs.flatten.length=xs.length*k:=by
 induction xs with
 | nil=>simp
 | cons a r ih=>rw[List.flatten_cons,yA,h a (by simp),ih (fun x hx=>h x (by simp[hx])),yB,Nat.succ_mul];omega
theorem zrB {w:World} {g:Nat} {cur:Array Value} {e:TypeId} (h:w.heap[g]?=some (.cells cur e (0,0))) (i:Nat) (v:Value):(w.setCell ⟨g,i,none⟩ v).heap[g]?=some (.cells (cur.setIfInBounds i v) e (0,0)):=heap_setCell_same w g i cur e v h
theorem zkv {g:Nat} {e:TypeId}:∀ (vs:List Value) (i:Nat) (w:World) (cur:Array Value),w.heap[g]?=some (.cells cur e (0,0))→i+vs.length≤cur.size→
 ∃ cur':Array Value,(setN w g i vs).heap[g]?=some (.cells cur' e (0,0))∧cur'.size=cur.size∧∀ j:Nat,cur'.toList[j]?=if i≤j∧j<i+vs.length then vs[j-i]? else cur.toList[j]?
 | [],i,w,cur,h,hi=>⟨cur,h,rfl,fun j=>by rw[if_neg (by simp only[List.length_nil];omega)]⟩
 | v::vs,i,w,cur,h,hi=>by
  simp only[yB]at hi;obtain ⟨cur',h1,h2,h3⟩:=zkv vs (i+1) _ _ (zrB h i v) (by rw[Array.size_setIfInBounds];omega);refine ⟨cur',h1,by rw[h2,Array.size_setIfInBounds],fun j=>?_⟩;rw[h3 j];simp only[yB];by_cases hj:i+1≤j∧j<i+1+vs.length
  ·rw[if_pos hj,if_pos (by omega),show j-i=(j-(i+1))+1 by omega,List.getElem?_cons_succ]
  ·rw[if_neg hj];by_cases hji:j=i
   ·subst hji;rw[if_pos (by omega),Nat.sub_self,List.getElem?_cons_zero];simp[show j<cur.size by omega]
   ·rw[if_neg (by omega)];simp only[Array.toList_setIfInBounds];rw[List.getElem?_set_ne (by omega)]
theorem Own.at {W:World} {base:Nat} {e:TypeId} {k g n cap:Nat} {rows:List (List Dat)} {cells:List (List Value)} (h:Own W base e k (.slice (some ⟨g,0,none⟩) n cap) rows cells) {i:Nat} {cs:List Value} (hi:cells[i]?=some cs) {j:Nat} {c:Value} (hj:cs[j]?=some c):W.cell? ⟨g,i*k+j,none⟩=some c:=by
 have hcs:=h.cs;have hlt:=(yE.1 hi).1;have hjl:=(yE.1 hj).1;have hk:=hcs cs (yP hi);have ho:=h.own;have hn:n=rows.length:=by
  rcases ho.2 with ⟨e1,_⟩|⟨g',cap',cur,e1,_⟩
  ·cases e1
  ·injection e1
 subst hn;have hlen:=h.len;have hlt2:i*k+j<rows.length*k:=by
  have:(i+1)*k≤rows.length*k:=Nat.mul_le_mul_right _ (by omega);rw[Nat.succ_mul]at this;omega
 rw[ho.cellAt _ hlt2,zhZ cells hcs i cs hi j (by omega)];exact hj
theorem Own.free {W:World} {base:Nat} {e:TypeId} {k g n cap:Nat} {rows:List (List Dat)} {cells:List (List Value)} (h:Own W base e k (.slice (some ⟨g,0,none⟩) n cap) rows cells) (o:Nat):W.frozen? ⟨g,o,none⟩=false:=by
 rcases h.own.2 with ⟨e1,_⟩|⟨g',cap',cur,e1,_,hg,_⟩
 ·cases e1
 ·injection e1 with e2 e3 e4
  obtain rfl:g=g':=by injection e2 with e2;injection e2
  simp[World.frozen?,hg]
theorem Own.sh {W:World} {base:Nat} {e:TypeId} {k:Nat} {v:Value} {rows:List (List Dat)} {cells:List (List Value)} {r:List Dat} (h:Own W base e k v (rows++[r]) cells):∃ g cap,v=.slice (some ⟨g,0,none⟩) (rows.length+1) cap∧rows.length+1≤cap∧cap≤maxLen∧base≤g∧g<W.heap.size:=by
 rcases h.own.2 with ⟨rfl,e1⟩|⟨g,cap,cur,rfl,hb,hg,h1,h2,_⟩
 ·rw[yA]at e1;simp at e1
 ·rw[yA]at h1 ⊢;exact ⟨g,cap,rfl,h1,h2,hb,(h.lt g rfl).2⟩
theorem Own.form {W:World} {base:Nat} {e:TypeId} {k:Nat} {v:Value} {rows:List (List Dat)} {cells:List (List Value)} (h:Own W base e k v rows cells):∃ ao cap,v=.slice ao rows.length cap:=by
 obtain ⟨ao,cap,h1,_⟩:=h.rep.len;exact ⟨ao,cap,h1⟩
theorem Own.put {W:World} {base:Nat} {e:TypeId} {k g n cap:Nat} {rows:List (List Dat)} {cells:List (List Value)} {zr r:List Dat} {zcs cs:List Value} (h:Own W base e k (.slice (some ⟨g,0,none⟩) n cap) (rows++[zr]) (cells++[zcs])) (hl:cells.length=rows.length) (hr:r.length=k)
 (hrow:Row W (fun b=>base≤b∧g≠b) r cs):Own (setN W g (rows.length*k) cs) base e k (.slice (some ⟨g,0,none⟩) n cap) (rows++[r]) (cells++[cs]):=by
 have hcs:=h.cs;have hck:cs.length=k:=by rw[← hrow.1];exact hr
 have hzk:zcs.length=k:=hcs zcs (by simp);have hin:∀ x∈cells,x.length=k:=fun x hx=>hcs x (by simp[hx])
 have hfl:=zhY cells k hin;rw[hl]at hfl;have hne:∀ b,(base≤b∧(Value.slice (some (⟨g,0,none⟩:Addr)) n cap).ownBlock≠some b)→(base≤b∧g≠b):=fun b hb=>⟨hb.1,fun e=>hb.2 (by rw[← e];rfl)⟩
 have hK:Kept (fun b=>b=g) W (setN W g (rows.length*k) cs):=Kept.setN (S:=fun b=>b=g) (B:=g) (.inl rfl) cs _ (Kept.refl _ W);refine ⟨?_,by simp[hl],?_⟩
 ·rcases h.own.2 with ⟨e1,_⟩|⟨g',cap',cur,e1,hb,hg,h1,h2,h3,h4⟩
  ·cases e1
  ·injection e1 with e2 e3 e4
   obtain rfl:g=g':=by injection e2 with e2;injection e2
   subst e4;have hn:n=rows.length+1:=by rw[e3,yA];rfl
   have hn':(rows++[zr]).length=rows.length+1:=by simp
   rw[hn']at h1 h4;have hsz:(rows.length+1)*k≤cur.size:=by rw[h3];exact Nat.mul_le_mul_right _ h1
   rw[Nat.succ_mul]at hsz;obtain ⟨cur',c1,c2,c3⟩:=zkv cs (rows.length*k) W cur hg (by omega);refine ⟨?_,.inr ⟨g,cap,cur',by rw[hn];simp,hb,c1,by simpa using h1,h2,by rw[c2];exact h3,?_⟩⟩
   ·rw[List.flatten_append,yA,hfl,yA];simp[hck,Nat.succ_mul]
   ·have e5:(rows++[r]).length=rows.length+1:=by simp
    rw[e5,List.flatten_append];rw[List.flatten_append]at h4;simp only[List.flatten_cons,List.flatten_nil,List.append_nil]at h4 ⊢;apply List.ext_getElem?;intro j;rw[List.getElem?_take,c3 j];have h4j:cur.toList.take ((rows.length+1)*k)=cells.flatten++zcs:=h4;by_cases hj:j<(rows.length+1)*k
    ·rw[if_pos hj];rw[Nat.succ_mul]at hj;by_cases hj2:rows.length*k≤j
     ·rw[if_pos (by omega),List.getElem?_append_right (by omega),hfl]
     ·rw[if_neg (by omega),List.getElem?_append_left (by omega)];have:=congrArg (fun l=>l[j]?) h4j;simp only[List.getElem?_take]at this;rw[if_pos (by rw[Nat.succ_mul];omega),List.getElem?_append_left (by omega)]at this;exact this
    ·rw[if_neg hj];rw[Nat.succ_mul]at hj;rw[List.getElem?_eq_none (by rw[yA];omega)]
 ·intro i r' cs' hr' hc';rw[List.getElem?_append]at hr' hc';rw[hl]at hc';split at hr'
  ·rename_i hlt
   rw[if_pos hlt]at hc';obtain ⟨g1,g2⟩:=h.row i r' cs' (by rw[List.getElem?_append,if_pos hlt];exact hr') (by rw[List.getElem?_append,hl,if_pos hlt];exact hc');exact ⟨g1,g2.kept hK fun b _ ho e=>(hne b ho).2 e.symm⟩
  ·rename_i hlt
   rw[if_neg hlt]at hc';have hi0:i-rows.length=0:=by
    have:=(yE.1 hr').1;simp at this;omega
   rw[hi0]at hr' hc';simp only[List.getElem?_cons_zero,Option.some.injEq]at hr' hc';subst hr' hc';exact ⟨hr,hrow.both hK (fun b _ ho e=>ho.2 e.symm) fun b _ ho=>⟨ho.1,fun e=>ho.2 (by simpa [Value.ownBlock] using e)⟩⟩
theorem zq1 {P:Program} {o:Oper} {a:Act} {K:Act→World→Prop} {Q:Exit→Act→World→Prop} {w:World} (s x:Operand) (t e:TypeId)
 (ho:o.op=.call { callee:=.builtin .append,args:=#[s,x],argTypes:=#[t,t] }) {i:TypeInfo} {z:Value} {k bytes:Nat} (ht:P.underlying t=some (.slice e)) (hi:P.info? e=some i) (hz:i.zero=some z) (hsize:i.size=k) (hby:i.bytes=bytes) (hzs:z.cells.size=k) (hk:0<k) (hb1:bytes≤1000)
 (base:Nat) (v:Value) (rows:List (List Dat)) (cells:List (List Value)) (r:List Dat) (cs:List Value) (gx:Nat) (hown:Own w base e k v rows cells) (hrl:r.length=k) (hr:Row w (fun b=>base≤b∧v.ownBlock≠some b) r cs) (hs:a.eval s=v) (hx:a.eval x=.slice (some ⟨gx,0,none⟩) 1 1)
 (hxc:∀ (j:Nat) (u:Value),cs[j]?=some u→w.cell? ⟨gx,j,none⟩=some u) (hlen:rows.length+1≤1000000) (hbase:base≤w.heap.size)
 (h:∀ v' w',Own w' base e k v' (rows++[r]) (cells++[cs])→w.grownBy w' v.ownBlock→(v'.ownBlock=v.ownBlock∨∃ b,v'.ownBlock=some b∧w.heap.size≤b)→K (a.put o.dst v') w') :
 o.wp P a w K Q:=by
 have hcl:cs.length=k:=by rw[← hr.1];exact hrl
 obtain ⟨v',w',hrun,h1,h2,h3⟩:=zcY (P:=P) w base t o.type e i z k bytes ht hi hz hsize hby hzs hk v rows.length cells.flatten hown.own ⟨gx,0,none⟩ 1 cs (by omega)
  (fun j u hj=>by
   have e1:(⟨gx,0,none⟩:Addr).add j=⟨gx,j,none⟩:=by simp[Addr.add];exact fun e=>e.symm
   rw[e1];exact hxc j u hj) hr.one (by unfold maxLen;omega) (by
    have:(rows.length+1)*bytes≤1000000*1000:=Nat.mul_le_mul hlen hb1;omega) hbase
 unfold Oper.wp execOp;simp only[ho,resolve,invoke,builtin,Sem.run_bind,Sem.run_pure,Result.andThen_ok,List.map_toArray,List.map_cons,List.map_nil,hs,hx,hrun];refine h v' w' ⟨?_,?_,?_⟩ h2 h3
 ·rw[yA,List.flatten_append];simpa using h1
 ·simp[hown.len]
 ·have hg:Kept (fun b=>v.ownBlock=some b) w w':=Kept.grown (Kept.refl _ _) h2 fun b hb=>.inl hb
  have hok:∀ b,b<w.heap.size→(base≤b∧v.ownBlock≠some b)→(base≤b∧v'.ownBlock≠some b):=fun b hb ho=>⟨ho.1,fun e=>by
   rcases h3 with h3|⟨c,h3,h4⟩
   ·rw[h3]at e;exact ho.2 e
   ·rw[h3]at e;have:=Option.some.inj e;omega⟩
  intro i' r' cs' hr' hc';rw[List.getElem?_append]at hr' hc';rw[hown.len]at hc';split at hr'
  ·rename_i hlt
   rw[if_pos hlt]at hc';obtain ⟨g1,g2⟩:=hown.row i' r' cs' hr' hc';exact ⟨g1,g2.both hg (fun b _ ho e=>ho.2 e) hok⟩
  ·rename_i hlt
   rw[if_neg hlt]at hc';have hi0:i'-rows.length=0:=by
    have:=(yE.1 hr').1;simp at this;omega
   rw[hi0]at hr' hc';simp only[List.getElem?_cons_zero,Option.some.injEq]at hr' hc';subst hr' hc';exact ⟨hrl,hr.both hg (fun b _ ho e=>ho.2 e) hok⟩
open Lx
structure GatP (w0:World) (base A C B:Nat):Prop where
 ab:A≠B
 cb:C≠B
 ca:C≠A
 a:A<base
 c:C<base
 b:B<base
structure GatS (w0:World) (base A C B:Nat) (T:TypeId) (k:Nat) (W:World) (vs:List Value) (off:Nat) (v:Value) (rows:List (List Dat)) (cells:List (List Value)):Prop where
 a:Box W A vs
 at':vs[off]?=some v
 c:Box W C [.pointer (some ⟨B,0,none⟩)]
 own:Own W base T k v rows cells
 kept:Kept (fun b=>b=B∨b=A∨base≤b) w0 W
 le:base≤W.heap.size
section
variable {w0 W W':World} {base A C B:Nat} {T:TypeId} {k off:Nat} {vs:List Value} {v:Value} {rows:List (List Dat)} {cells:List (List Value)}
theorem GatS.next (p:GatP w0 base A C B) (h:GatS w0 base A C B T k W vs off v rows cells) (g:Kept (fun b=>b=B) W W'):GatS w0 base A C B T k W' vs off v rows cells :=
 ⟨h.a.kept g (fun e=>p.ab e),h.at',h.c.kept g (fun e=>p.cb e),h.own.kept g (fun b hb e=>by have e':b=B:=e;have:=p.b;omega),h.kept.trans (g.mono fun _ _ e=>.inl e),yH h.le g.size⟩
theorem GatS.alloc (p:GatP w0 base A C B) (h:GatS w0 base A C B T k W vs off v rows cells) (o:Obj):GatS w0 base A C B T k (W.alloc o) vs off v rows cells:=h.next p ((Kept.refl _ W).alloc o)
theorem GatS.drew (p:GatP w0 base A C B) (h:GatS w0 base A C B T k W vs off v rows cells):GatS w0 base A C B T k W.drew vs off v rows cells:=h.next p ((Kept.refl _ W).drew)
theorem GatS.cell (h:GatS w0 base A C B T k W vs off v rows cells):W.cell? ⟨A,off,none⟩=some v:=h.a.cl _ _ h.at'
theorem GatS.ptr (h:GatS w0 base A C B T k W vs off v rows cells):W.cell? ⟨C,0,none⟩=some (.pointer (some ⟨B,0,none⟩)):=h.c.cl 0 _ rfl
theorem GatS.appended (p:GatP w0 base A C B) (h:GatS w0 base A C B T k W vs off v rows cells) {v':Value} {rows':List (List Dat)} {cells':List (List Value)} (ho:Own W' base T k v' rows' cells') (hg:W.grownBy W' v.ownBlock) :
 Box W' A vs∧Box W' C [.pointer (some ⟨B,0,none⟩)]∧Kept (fun b=>b=B∨b=A∨base≤b) w0 W'∧base≤W'.heap.size∧Kept (fun b=>base≤b) W W':=by
 have hK:Kept (fun b=>base≤b) W W':=(Kept.refl _ W).grown hg fun b hb=>.inl (h.own.lt b hb).1
 exact ⟨h.a.kept hK (by show ¬ base≤A;have:=p.a;omega),h.c.kept hK (by show ¬ base≤C;have:=p.c;omega),h.kept.trans (hK.mono fun _ _ e=>.inr (.inr e)),yH h.le hK.size,hK⟩
theorem GatS.done {d m g n cap:Nat} {s:Ps} {zr r:List Dat} {zcs cs:List Value} {vo:Value} (p:GatP w0 base A C B) (hm:m=rows.length) (hl:cells.length=rows.length) (hA:Box W A vs) (ho:vs[off]?=some vo) (hC:Box W C [.pointer (some ⟨B,0,none⟩)]) (hw:Own W base T k (.slice (some ⟨g,0,none⟩) n cap) (rows++[zr]) (cells++[zcs]))
 (hK:Kept (fun b=>b=B∨b=A∨base≤b) w0 W) (hle:base≤W.heap.size) (hr:r.length=k) (hrow:Row W (fun b=>base≤b∧g≠b) r cs) (hP:PAt W B d s) (hBA:B<A) :
 (GatS w0 base A C B T k ((setN W g (m*k) cs).setCell ⟨A,off,none⟩ (.slice (some ⟨g,0,none⟩) n cap)) (vs.set off (.slice (some ⟨g,0,none⟩) n cap)) off (.slice (some ⟨g,0,none⟩) n cap) (rows++[r]) (cells++[cs])∧
  PAt ((setN W g (m*k) cs).setCell ⟨A,off,none⟩ (.slice (some ⟨g,0,none⟩) n cap)) B d s)∧
 (GatS w0 base A C B T k (setN (W.setCell ⟨A,off,none⟩ (.slice (some ⟨g,0,none⟩) n cap)) g (m*k) cs) (vs.set off (.slice (some ⟨g,0,none⟩) n cap)) off (.slice (some ⟨g,0,none⟩) n cap) (rows++[r]) (cells++[cs])∧
  PAt (setN (W.setCell ⟨A,off,none⟩ (.slice (some ⟨g,0,none⟩) n cap)) g (m*k) cs) B d s):=by
 subst hm;have hg:=hw.lt g rfl;have hofl:off<vs.length:=(yE.1 ho).1;have hset:(vs.set off (Value.slice (some (⟨g,0,none⟩:Addr)) n cap))[off]?=some (.slice (some ⟨g,0,none⟩) n cap):=by rw[List.getElem?_set_self hofl]
 have pa:=p.a;have pb:=p.b;have pc:=p.c;have kset:∀ X:World,Kept (fun b=>b=A) X (X.setCell ⟨A,off,none⟩ (.slice (some ⟨g,0,none⟩) n cap)):=fun X=>(Kept.refl (fun b=>b=A) X).set ⟨A,off,none⟩ (.inl rfl) _
 have kN:∀ X:World,Kept (fun b=>b=g) X (setN X g (rows.length*k) cs):=fun X=>Kept.setN (S:=fun b=>b=g) (B:=g) (.inl rfl) cs _ (Kept.refl _ X)
 have own1:=hw.put hl hr hrow;have lift:∀ {X Y:World},Kept (fun b=>b=A) X Y→Kept (fun b=>b=B∨b=A∨base≤b) X Y:=fun h=>h.mono fun _ _ e=>.inr (.inl e)
 have liftN:∀ {X Y:World},Kept (fun b=>b=g) X Y→Kept (fun b=>b=B∨b=A∨base≤b) X Y:=fun h=>h.mono fun b _ e=>.inr (.inr (by have e':b=g:=e;rw[e'];exact hg.1))
 refine ⟨⟨⟨(hA.otherN (by omega) cs _).put off _,hset,(hC.otherN (by omega) cs _).other (by have:=p.ca;omega) off _,own1.kept (kset _) (fun b hb e=>by have e':b=A:=e;omega),(hK.trans (liftN (kN W))).trans (lift (kset _)),?_⟩,?_⟩,⟨⟨(hA.put off _).otherN (by omega) cs _,hset,(hC.other (by have:=p.ca;omega) off _).otherN (by omega) cs _,?_,(hK.trans (lift (kset W))).trans (liftN (kN _)),?_⟩,?_⟩⟩
 ·rw[World.size_setCell,zcW];exact hle
 ·exact (hP.kept (kN W) fun b e=>by have e':b=g:=e;omega).kept (kset _) fun b e=>by have e':b=A:=e;omega
 ·have hw2:=hw.kept (kset W) (fun b hb e=>by have e':b=A:=e;omega);exact hw2.put hl hr (hrow.kept (kset W) fun b _ hb e=>by have e':b=A:=e;have:=hb.1;omega)
 ·rw[zcW,World.size_setCell];exact hle
 ·exact (hP.kept (kset W) fun b e=>by have e':b=A:=e;omega).kept (kN _) fun b e=>by have e':b=g:=e;omega
end
theorem PAt.own {W W':World} {B d base:Nat} {s:Ps} (h:PAt W B d s) (hB:B<base) (g:Kept (fun b=>base≤b) W W'):PAt W' B d s:=h.kept g fun b hb=>Nat.lt_of_lt_of_le hB hb
