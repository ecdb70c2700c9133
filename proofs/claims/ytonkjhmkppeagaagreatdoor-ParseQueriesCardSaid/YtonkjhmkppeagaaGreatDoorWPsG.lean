/- Walks: expressions at any depth; one that stands alone. Walks: what is told, if all tokens were read; a reader of a text; the expression of a text. -/
import Derived.Test.YtonkjhmkppeagaaGreatDoorWPsF
import Derived.Test.YtonkjhmkppeagaaGreatDoorWLexB
set_option maxHeartbeats 6400000
set_option linter.unusedVariables false
set_option linter.unusedSimpArgs false
namespace Go.Proofs.YtonkjhmkppeagaaGreatDoor.Pz
open Go.Proofs.Tryz
open Go.Lib (hid)
open Go.RowKit Go Go.Sort Ba Lx
theorem zpw (D:Dp) (B d:Nat) (hG:GoesE D.dor) (hd:DpOk 80 D.dor B d) (hp:DpPar D.dparen B d):FnOk 180 (prL D) B d:=fun w s h=>by
 by_cases h2:(peekP s).k=2
 ·exact zjF D B d w s h h2
 by_cases h3:(peekP s).k=3
 ·exact ziy D B d w s h h3
 cases hx:isP s sNull with
 | true=>exact ziz D B d w s h h2 h3 hx
 | false =>
  cases hy:isP s [40] with
  | true=>exact zjE D B d hp w s h h2 h3 hx hy
  | false =>
   by_cases h1:(peekP s).k=1
   ·by_cases ha:(peekP s).t=sAnd
    ·exact zf8 D B d w s h h2 h3 hx hy h1 ha
    by_cases ho:(peekP s).t=sOr
    ·exact zgC D B d w s h h2 h3 hx hy h1 ho
    by_cases hn:(peekP s).t=sNot
    ·exact zf7 D B d w s h h2 h3 hx hy h1 hn
    cases hz:isP (advP s) [40] with
    | false=>exact zjG D B d w s h h2 h3 hx hy h1 ha ho hn hz
    | true=>exact ziA D B d hG hd w s h h2 h3 hx hy h1 ha ho hn hz
   ·exact zfw D B d w s h h2 h3 hx hy h1
theorem zkN (D:Dp) (g:GoesD D) (B d:Nat) (h1:DpOk 80 D.dor B d) (h2:DpOk 141 D.dnot B d) (h3:DpOk 179 D.dminus B d) (h4:DpPar D.dparen B d) :
 FnOk 80 (orL D) B d∧FnOk 141 (ntL D) B d∧FnOk 179 (mnL D) B d:=by
 have pr:=zpw D B d g.dor h1 h4;have mn:=znm D B d h3 pr;have pd:=zjD D B d g.mn mn;have sm:=zrl D B d g.pd pd;have cm:=zj9 D B d g.sm sm;have nt:=zrQ D B d h2 cm;have an:=zsv D B d g.nt nt;exact ⟨ztg D B d g.an an,nt,mn⟩
theorem level:∀ (n B d:Nat),d+n=32→FnOk 80 (orL (deepN n)) B d∧FnOk 141 (ntL (deepN n)) B d∧FnOk 179 (mnL (deepN n)) B d
 | 0,B,d,h=>by
  obtain rfl:d=32:=by omega
  exact zkN (deepN 0) (zci 0) B 32 (zj4 _ B) (zj4 _ B) (zj4 _ B) (zpG B)
 | n+1,B,d,h=>by
  obtain ⟨i1,i2,i3⟩:=level n B (d+1) (by omega);exact zkN (deepN (n+1)) (zci (n+1)) B d (zh1 (enters_of func80 (by kernel_rfl) rfl) (by omega) i1) (zh1 (enters_of func141 (by kernel_rfl) rfl) (by omega) i2) (zh1 (enters_of func179 (by kernel_rfl) rfl) (by omega) i3) (zpH (by omega) i1)
theorem zl5 (B:Nat):DpOk 80 zak B 0:=zh1 (enters_of func80 (by kernel_rfl) rfl) (by omega) (level 31 B 1 (by omega)).1
set_option maxRecDepth 100000 in
theorem zez (w:World) (s:Ps) (B d:Nat) (hp:PAt w B d s):Calls Tryz.prog 45 #[.pointer (some ⟨B,0,none⟩)] w (ExTo w B d (zak s).1 (zak s).2):=by
 have hlt:=hp.lt;have HD:=hid (zl5 B);have R0:=(Box.new (w.setCell ⟨B,3,none⟩ (.int .i64 0)) zzL 27);rw[World.size_setCell]at R0;have HP0:=hid hp;obtain ⟨il,_,_,_,sl,hb,ht⟩:=hp;have KW:Kept (fun b=>b=B) w ((w.setCell ⟨B,3,none⟩ (.int .i64 0)).alloc (.cells zzA 27)):=((Kept.refl (fun b=>b=B) w).set ⟨B,3,none⟩ (.inl rfl) _).alloc _;have PW:Hid (PAt ((w.setCell ⟨B,3,none⟩ (.int .i64 0)).alloc (.cells zzA 27)) B 0 s):=HP0.out.turn (d':=0) ht KW il (by omega) ((hb.put 3 _).alloc _)
 have hz0:w.heap.size+1≤((w.setCell ⟨B,3,none⟩ (.int .i64 0)).alloc (.cells zzA 27)).heap.size:=by simp
 have hd32:=HP0.out.2.2.1;obtain ⟨b0,b1,b2,b3,b4,b5,g1,g3,g4,g5⟩:=hb.six;clear hb ht;go_enter func45,ntmps45
 go_wp2_with fail
 generalize (w.setCell ⟨B,3,none⟩ (.int .i64 0)).alloc (.cells zzA 27)=W0 at *
 refine (HD.out _ _ PW.out).mono ?_;rintro e w1 ⟨ao,cp,rfl,hA,hK,hP⟩;have HA:=hid hA;have HK:=hid hK;have HP:=hid hP;obtain ⟨il',_,_,_,sl',hb',ht'⟩:=hP;have HT':=hid ht';have hb2:Box w1 B [sl',.int .i64 ((zak s).2.i:Int),.int .i64 ((zak s).2.E:Int),.int .i64 0,.int .i64 (zak s).2.e,.int .i64 ((zak s).2.a:Int)]:=hb';have R1:=R0.kept HK.out (by show ¬ w.heap.size=B;omega);have hz1:=hK.size;have hBw1:B<w1.heap.size:=hb2.lt;have X2:=Box.new (w1.setCell ⟨B,3,none⟩ (.int .i64 (d:Int))) [.int .i64 (zak s).1.k,.string ⟨(zak s).1.nm.toArray⟩,.int .i64 (zak s).1.v.k,.int .i64 (zak s).1.v.n,.string ⟨(zak s).1.v.t.toArray⟩,.string ⟨(zak s).1.op.toArray⟩,.slice ao (zak s).1.xs.length cp] 27;rw[World.size_setCell]at X2
 have R2:=(R1.other (C:=B) (by omega) 3 (.int .i64 (d:Int))).alloc (.cells #[.int .i64 (zak s).1.k,.string ⟨(zak s).1.nm.toArray⟩,.int .i64 (zak s).1.v.k,.int .i64 (zak s).1.v.n,.string ⟨(zak s).1.v.t.toArray⟩,.string ⟨(zak s).1.op.toArray⟩,.slice ao (zak s).1.xs.length cp] 27);have B2:=(hb2.put 3 (.int .i64 (d:Int))).alloc (.cells #[.int .i64 (zak s).1.k,.string ⟨(zak s).1.nm.toArray⟩,.int .i64 (zak s).1.v.k,.int .i64 (zak s).1.v.n,.string ⟨(zak s).1.v.t.toArray⟩,.string ⟨(zak s).1.op.toArray⟩,.slice ao (zak s).1.xs.length cp] 27)
 have K2:=((Kept.refl (fun b=>b=B) w1).set ⟨B,3,none⟩ (.inl rfl) (.int .i64 (d:Int))).alloc (.cells #[.int .i64 (zak s).1.k,.string ⟨(zak s).1.nm.toArray⟩,.int .i64 (zak s).1.v.k,.int .i64 (zak s).1.v.n,.string ⟨(zak s).1.v.t.toArray⟩,.string ⟨(zak s).1.op.toArray⟩,.slice ao (zak s).1.xs.length cp] 27);have HK2:=hid K2;have hz2:=K2.size;have hRT:w.heap.size<w1.heap.size:=by omega
 clear b0 b1 b2 b3 b4 b5 g1 g3 g4 g5 R1 hA hK hb' ht' K2;obtain ⟨b0,b1,b2,b3,b4,b5,g1,g3,g4,g5⟩:=hb2.six;clear hb2;go_upto_region 5 with (fail)
 generalize (w1.setCell ⟨B,3,none⟩ (.int .i64 (d:Int))).alloc (.cells #[.int .i64 (zak s).1.k,.string ⟨(zak s).1.nm.toArray⟩,.int .i64 (zak s).1.v.k,.int .i64 (zak s).1.v.n,.string ⟨(zak s).1.v.t.toArray⟩,.string ⟨(zak s).1.op.toArray⟩,.slice ao (zak s).1.xs.length cp] 27)=W2 at *
 have P2:PAt W2 B d (zak s).2:=by
  obtain ⟨_,tl,_,hn,_⟩:=HP.out;exact ⟨il',tl,hd32,hn,sl',B2,HT'.out.kept HK2.out fun k h=>by have h':k=B:=h;omega⟩
 have HP2:=hid P2;have HA2:=hid (HA.out.both HK2.out (ok':=fun b=>w.heap.size<b) (fun b _ hb e=>by have e':b=B:=e;omega) (fun b _ hb=>by omega));obtain ⟨y0,y1,y2,y3,y4,y5,y6⟩:=X2.seven;obtain ⟨z0,z1,z2,z3,z4,z5,z6⟩:=(R2).seven;obtain ⟨f0,f1,f2,f3,f4,f5,f6⟩:=(R2).free7;clear b0 b1 b2 b3 b4 b5 g1 g3 g4 g5 P2;go_wp2_with fail
 have SP:=(R2).setN (vs:=[.int .i64 (zak s).1.k,.string ⟨(zak s).1.nm.toArray⟩,.int .i64 (zak s).1.v.k,.int .i64 (zak s).1.v.n,.string ⟨(zak s).1.v.t.toArray⟩,.string ⟨(zak s).1.op.toArray⟩,.slice ao (zak s).1.xs.length cp]) rfl;have K9:=Kept.setN (S:=fun b=>b=w.heap.size) (B:=w.heap.size) (.inl rfl) [.int .i64 (zak s).1.k,.string ⟨(zak s).1.nm.toArray⟩,.int .i64 (zak s).1.v.k,.int .i64 (zak s).1.v.n,.string ⟨(zak s).1.v.t.toArray⟩,.string ⟨(zak s).1.op.toArray⟩,.slice ao (zak s).1.xs.length cp] 0 (Kept.refl _ W2);dsimp only[setN]at SP K9;obtain ⟨p0,p1,p2,p3,p4,p5,p6⟩:=SP.seven;refine bodyPost_ret (by simp[results,results45,go_sem,p0,p1,p2,p3,p4,p5,p6];try rfl) rfl ?_
 exact ⟨_,_,rfl,(HA2.out).both K9 (fun b _ hb e=>by have e':b=w.heap.size:=e;omega) (fun b _ hb=>by omega),((KW.trans HK.out).trans HK2.out).then K9 (fun k hk e=>by have e':k=w.heap.size:=e;omega),(HP2.out).apart K9 (by omega)⟩
def allR {α:Type} (z:α) (s:Ps) (x:α):α×Nat×Int:=if (allP s).e=0 then (x,s.E,0) else (z,(allP s).a,(allP s).e)
theorem zdj {s:Ps} (h:s.e≠0):allP s=s:=by unfold allP;rw[if_neg (fun x=>h x.1)]
theorem zd1 {s:Ps} (h:s.e=0) (hi:s.i<s.T.length):allP s=failP s 51:=by unfold allP;rw[if_pos ⟨h,hi⟩]
theorem zdA {s:Ps} (hi:¬ s.i<s.T.length):allP s=s:=by unfold allP;rw[if_neg (fun x=>hi x.2)]
theorem zjn (l:List UInt8):(lexS l).1.length≤20000∧(∀ t∈(lexS l).1,0≤t.n∧t.n≤9223372036854775807)∧(∀ t∈(lexS l).1,TokOk t):=by
 unfold lexS;split
 ·exact ⟨yS _,fun t h=>(by cases h),fun t h=>(by cases h)⟩
 ·obtain ⟨h1,_,h3⟩:=zkM l.length l 0 (yG _);refine ⟨by omega,fun t ht=>?_,h1⟩;rcases h1 t ht with ⟨_,h,_⟩|⟨_,_,h4,h5⟩|⟨_,h,_⟩|⟨_,h,_⟩
  ·rw[h];decide
  ·exact ⟨h4,h5⟩
  ·rw[h];decide
  ·rw[h];decide
theorem zrZ (s:ByteArray) (w:World) (h16:16384<s.size):Calls Tryz.prog 77 #[.string s] w (LexTo (lexS s.data.toList) 169 w):=by
 have HX:Hid (lexS s.data.toList=([],0,31)):=by
  show lexS s.data.toList=_
  unfold lexS;rw[if_pos (by rw[← zau];exact h16)]
 have h17:(16384:Int)<(s.size:Int):=by omega
 go_enter func77,ntmps77
 go_wp2_with fail
 refine bodyPost_ret (v:=.tuple #[.slice none 0 0,.int .i64 0,.int .i64 31]) (by simp[results,results77,go_sem]) rfl ?_;rw[HX.out];exact ⟨_,rfl,World.ownsRow_nil _ _ _ _,Below.refl _ _⟩
theorem zr1 (s:ByteArray) (w:World) (hE:EnvL w):Calls Tryz.prog 77 #[.string s] w (LexTo (lexS s.data.toList) 169 w):=by
 by_cases h:16384<s.size
 ·exact zrZ s w h
 ·exact zr0 s w (by omega) hE
theorem ztf {w:World} {base:Nat} {e:TypeId} {size:Nat} {v:Value} {n:Nat} {xs:List Value} (h:w.ownsRow base e size v n xs):∃ ao m c,v=.slice ao m c:=by
 rcases h.2 with ⟨rfl,_⟩|⟨g,cap,cur,rfl,_⟩
 ·exact ⟨_,_,_,rfl⟩
 ·exact ⟨_,_,_,rfl⟩
def zq2 (p0:Ps) (w:World) (e:Ending) (w':World):Prop:=∃ B,e=.returned (.pointer (some ⟨B,0,none⟩))∧w.heap.size≤B∧PAt w' B 0 p0∧Below w.heap.size w w'
theorem zhJ (s:ByteArray) (w:World) (hE:EnvL w):Calls Tryz.prog 43 #[.string s] w (zq2 (openP s.data.toList) w):=by
 obtain ⟨hT,hN,_⟩:=zjn s.data.toList;have HT:=hid hT;have HN:=hid hN;have HL:=hid (zr1 s w hE);obtain ⟨X,hX⟩:∃ X,lexS s.data.toList=X:=⟨_,rfl⟩;rw[hX]at HL HT HN;have HO:Hid (openP s.data.toList=⟨X.1,s.data.toList.length,0,X.2.2,X.2.1⟩):=by show openP _=_;unfold openP;rw[hX]
 have HSZ:Hid (s.size=s.data.toList.length):=zau s;clear hT hN hE hX;go_enter func43,ntmps43
 go_wp2_with (go_at_call 77;refine HL.out.mono ?_;rintro e w1 ⟨v,rfl,hown,hb⟩;obtain ⟨va,vn,vc,rfl⟩:=ztf hown)
 go_ret
 rw[HO.out];have hbx:=Box.new w1 [.slice va vn vc,.int .i64 0,.int .i64 (s.size:Int),.int .i64 0,.int .i64 X.2.2,.int .i64 (X.2.1:Int)] 134;rw[HSZ.out]at hbx;refine ⟨w1.heap.size,rfl,hb.size,⟨yS _,HT.out,by decide,HN.out,.slice va vn vc,?_,?_⟩,hb.alloc hb.size _⟩
 ·rw[HSZ.out];exact hbx
 ·rcases hown.2 with ⟨hv,h2⟩|⟨g,cap,cur,hv,hg,hh,h3,h4,h5,h6⟩
  ·injection hv with v1 v2 v3
   subst v1 v2 v3;exact ⟨none,0,by show Value.slice none 0 0=.slice none X.1.length 0;rw[h2],by show X.1.length≤0;omega,by unfold maxLen;omega,fun i t ht=>by
    have:=(yE.1 ht).1;simp only at this;omega⟩
  ·injection hv with v1 v2 v3
   subst v1 v2 v3;refine ⟨some ⟨g,0,none⟩,vc,rfl,h3,h4,fun i t ht=>?_⟩;have hgl:=(hown.lt g rfl).2;refine ⟨g,rfl,by simp;omega,hgl,fun j hj=>?_⟩;have hi:=(yE.1 ht).1;rw[World.cell?_alloc_past _ _ _ hgl,hown.cellAt (i*4+j) (by simp only at hi;omega),zoB _ i t ht j hj]
