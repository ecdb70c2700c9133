/- Walks: are two expressions one? -/
import Derived.Test.YtonkjhmkppeagaaGreatDoorWPsC
import Derived.Test.YtonkjhmkppeagaaGreatDoorWTree
set_option maxRecDepth 100000
set_option maxHeartbeats 6400000
set_option linter.unusedVariables false
set_option linter.unusedSimpArgs false
namespace Go.Proofs.YtonkjhmkppeagaaGreatDoor.Pz
open Go.Proofs.Tryz
open Go.Lib (hid)
open Go.RowKit Go Go.Sort Ba Lx
mutual
def eqE:Ex→Ex→Bool
 | .mk k n v o xs,.mk k' n' v' o' xs'=>decide (k=k') && (decide (n=n') && (decide (v=v') && (decide (o=o') && eqEs xs xs')))
def eqEs:List Ex→List Ex→Bool
 | [],[]=>true
 | [],_::_=>false
 | _::_,[]=>false
 | x::r,y::s=>eqE x y && eqEs r s
end
mutual
theorem zet:∀ x y:Ex,eqE x y=true↔x=y
 | .mk k n v o xs,.mk k' n' v' o' xs'=>by
  rw[eqE];simp only[Bool.and_eq_true,yL,zdI xs xs',Ex.mk.injEq]
theorem zdI:∀ x y:List Ex,eqEs x y=true↔x=y
 | [],[]=>by rw[eqEs];simp
 | [],_::_=>by rw[eqEs];simp
 | _::_,[]=>by rw[eqEs];simp
 | x::r,y::s=>by
  rw[eqEs];simp only[Bool.and_eq_true,zet x y,zdI r s,List.cons.injEq]
end
theorem ztB (x y:Ex):eqE x y=(decide (x.k=y.k) && (decide (x.nm=y.nm) && (decide (x.v=y.v) && (decide (x.op=y.op) && eqEs x.xs y.xs)))):=by
 cases x;cases y;rw[eqE];rfl
theorem arg7 {W:World} {ok:Nat→Prop} {ao:Option Addr} {n cap i:Nat} {xs:List Ex} {a:Ex} (h:XArgs W ok (.slice ao n cap) xs) (ha:xs[i]?=some a) :
 ∃ b o aa ac,ao=some ⟨b,o,none⟩∧b<W.heap.size∧ok b∧XArgs W ok (.slice aa a.xs.length ac) a.xs∧∀ j c,(exC a (.slice aa a.xs.length ac))[j]?=some c→W.cell? ⟨b,o+i*7+j,none⟩=some c:=by
 have hi:(exDs xs)[i]?=some (exD a):=by rw[zdh,yQ,ha];rfl
 obtain ⟨b,o,cs,e1,e2,e3,e4,e5,e6⟩:=Rep.at h hi;obtain ⟨sl,rfl,h7⟩:=zkY e6;obtain ⟨aa,ac,rfl,_⟩:=XArgs.len h7;refine ⟨b,o,aa,ac,e1,e2,e3,h7,fun j c hc=>?_⟩;have hj:j<7:=by have:=(yE.1 hc).1;exact this
 rw[Nat.add_assoc,e4 j hj];exact hc
theorem XArgs.below {W W':World} {ok:Nat→Prop} {sl:Value} {xs:List Ex} (h:XArgs W ok sl xs) (hb:Below W.heap.size W W'):XArgs W' ok sl xs:=Rep.kept (S:=fun _=>False) (Kept.of_below hb) (fun _ _ _ h=>h) h
def EqTo (w:World) (b:Bool) (e:Ending) (w':World):Prop:=e=.returned (.bool b)∧Below w.heap.size w w'
def EqOk (x:Ex):Prop:=∀ (y:Ex) (sa sb:Option Addr) (ca cb:Nat) (w:World) (ok:Nat→Prop),XArgs w ok (.slice sa x.xs.length ca) x.xs→XArgs w ok (.slice sb y.xs.length cb) y.xs→Calls Tryz.prog 19 #[exV x (.slice sa x.xs.length ca),exV y (.slice sb y.xs.length cb)] w (EqTo w (eqE x y))
theorem zqh {xs ys:List Ex} (h:xs.length≠ys.length):eqEs xs ys=false:=by
 cases e:eqEs xs ys with
 | false=>rfl
 | true=>exact absurd (congrArg List.length ((zdI _ _).1 e)) h
theorem zsi {xs ys:List Ex} {k:Nat} {x y:Ex} (hx:xs[k]?=some x) (hy:ys[k]?=some y) (h:eqE x y=false):eqEs xs ys=false:=by
 cases e:eqEs xs ys with
 | false=>rfl
 | true =>
  obtain rfl:=(zdI _ _).1 e;rw[hx]at hy;obtain rfl:=Option.some.inj hy;rw[(zet x x).2 rfl]at h;cases h
theorem zqi {xs ys:List Ex} (hl:xs.length=ys.length) (h:∀ (k:Nat) (x y:Ex),xs[k]?=some x→ys[k]?=some y→x=y):eqEs xs ys=true:=by
 rw[zdI];apply List.ext_getElem? ;intro k;by_cases hk:k<xs.length
 ·have h1:=yF hk;have h2:=yF (l:=ys) (i:=k) (by omega);rw[h1,h2,h k _ _ h1 h2]
 ·rw[List.getElem?_eq_none (by omega),List.getElem?_eq_none (by omega)]
theorem zj2 (xs ys:List Ex) (ih:∀ x∈xs,EqOk x) (sa sb:Option Addr) (ca cb:Nat) (w:World) (ok:Nat→Prop) (hA:XArgs w ok (.slice sa xs.length ca) xs) (hB:XArgs w ok (.slice sb ys.length cb) ys) :
 Calls Tryz.prog 50 #[.slice sa xs.length ca,.slice sb ys.length cb,.func (.func 19) #[] #[]] w (EqTo w (eqEs xs ys)):=by
 obtain ⟨_,_,_,hl1,hl2⟩:=XArgs.len hA;have hl:xs.length≤maxLen:=yH hl1 hl2;unfold maxLen at hl;clear hl1 hl2;have HA:=hid hA;have HB:=hid hB;have HI:=hid ih;by_cases hne:xs.length=ys.length
 ·obtain ⟨n,hn⟩:∃ n,xs.length=n:=⟨_,rfl⟩;have hn2:ys.length=n:=by omega
  have HALL:=hid (fun h=>zqi hne h);rw[hn]at HA hl ⊢;rw[hn2]at HB ⊢;have HN:=hid hn;have HN2:=hid hn2;clear hA hB ih hne hn hn2;go_enter func50,ntmps50
  go_wp2_with fail
  go_loopw [17] (fun i wr=>∃ k:Nat,k≤n∧i=.int .i64 k∧Hid (Below w.heap.size w wr)∧Hid (∀ (j:Nat) (x y:Ex),j<k→xs[j]?=some x→ys[j]?=some y→x=y)) (fun i _=>n-(intOf i).toNat)
  case atStart=>exact ⟨0,yS _,rfl,Below.refl _ _,(fun j x y hj=>by omega:∀ (j:Nat) (x y:Ex),j<0→xs[j]?=some x→ys[j]?=some y→x=y)⟩
  case round =>
   obtain ⟨k,hk,rfl,HW,HE⟩:=hrel;by_cases hlt:k<n
   ·obtain ⟨x,hx⟩:∃ x,xs[k]?=some x:=⟨_,yF (by rw[HN.out];exact hlt)⟩;obtain ⟨y,hy⟩:∃ y,ys[k]?=some y:=⟨_,yF (by rw[HN2.out];exact hlt)⟩;obtain ⟨b1,o1,aa1,ac1,rfl,l1,_,X1,F1⟩:=arg7 (HA.out.below HW.out) hx;obtain ⟨b2,o2,aa2,ac2,rfl,l2,_,X2,F2⟩:=arg7 (HB.out.below HW.out) hy;have hb1:=HW.out.size;have c0:=F1 0 _ rfl;have d0:=F2 0 _ rfl;have c1:=F1 1 _ rfl;have d1:=F2 1 _ rfl;have c2:=F1 2 _ rfl;have d2:=F2 2 _ rfl;have c3:=F1 3 _ rfl;have d3:=F2 3 _ rfl;have c4:=F1 4 _ rfl;have d4:=F2 4 _ rfl;have c5:=F1 5 _ rfl;have d5:=F2 5 _ rfl;have c6:=F1 6 _ rfl;have d6:=F2 6 _ rfl;rw[Nat.add_zero]at c0 d0
    have bw:Below wr.heap.size wr ((wr.alloc (.cells #[.int .i64 x.k,.string ⟨x.nm.toArray⟩,.int .i64 x.v.k,.int .i64 x.v.n,.string ⟨x.v.t.toArray⟩,.string ⟨x.op.toArray⟩,.slice aa1 x.xs.length ac1] 27)).alloc (.cells #[.int .i64 y.k,.string ⟨y.nm.toArray⟩,.int .i64 y.v.k,.int .i64 y.v.n,.string ⟨y.v.t.toArray⟩,.string ⟨y.op.toArray⟩,.slice aa2 y.xs.length ac2] 27)):=((Below.refl _ wr).alloc (yG _) _).alloc (by simp) _;replace d0:=(World.cell?_alloc_past (.cells #[.int .i64 x.k,.string ⟨x.nm.toArray⟩,.int .i64 x.v.k,.int .i64 x.v.n,.string ⟨x.v.t.toArray⟩,.string ⟨x.op.toArray⟩,.slice aa1 x.xs.length ac1] 27) _ _ l2).trans d0
    replace d1:=(World.cell?_alloc_past (.cells #[.int .i64 x.k,.string ⟨x.nm.toArray⟩,.int .i64 x.v.k,.int .i64 x.v.n,.string ⟨x.v.t.toArray⟩,.string ⟨x.op.toArray⟩,.slice aa1 x.xs.length ac1] 27) _ _ l2).trans d1;replace d2:=(World.cell?_alloc_past (.cells #[.int .i64 x.k,.string ⟨x.nm.toArray⟩,.int .i64 x.v.k,.int .i64 x.v.n,.string ⟨x.v.t.toArray⟩,.string ⟨x.op.toArray⟩,.slice aa1 x.xs.length ac1] 27) _ _ l2).trans d2;replace d3:=(World.cell?_alloc_past (.cells #[.int .i64 x.k,.string ⟨x.nm.toArray⟩,.int .i64 x.v.k,.int .i64 x.v.n,.string ⟨x.v.t.toArray⟩,.string ⟨x.op.toArray⟩,.slice aa1 x.xs.length ac1] 27) _ _ l2).trans d3
    replace d4:=(World.cell?_alloc_past (.cells #[.int .i64 x.k,.string ⟨x.nm.toArray⟩,.int .i64 x.v.k,.int .i64 x.v.n,.string ⟨x.v.t.toArray⟩,.string ⟨x.op.toArray⟩,.slice aa1 x.xs.length ac1] 27) _ _ l2).trans d4;replace d5:=(World.cell?_alloc_past (.cells #[.int .i64 x.k,.string ⟨x.nm.toArray⟩,.int .i64 x.v.k,.int .i64 x.v.n,.string ⟨x.v.t.toArray⟩,.string ⟨x.op.toArray⟩,.slice aa1 x.xs.length ac1] 27) _ _ l2).trans d5;replace d6:=(World.cell?_alloc_past (.cells #[.int .i64 x.k,.string ⟨x.nm.toArray⟩,.int .i64 x.v.k,.int .i64 x.v.n,.string ⟨x.v.t.toArray⟩,.string ⟨x.op.toArray⟩,.slice aa1 x.xs.length ac1] 27) _ _ l2).trans d6;have HC:=hid ((HI.out x (yP hx)) y aa1 aa2 ac1 ac2 _ ok (X1.below bw) (X2.below bw));obtain ⟨q,hq⟩:∃ q,eqE x y=q:=⟨_,rfl⟩;rw[hq]at HC;have HX:=hid hx;have HY:=hid hy
    have HQ:=hid hq;have HBW:=hid bw;clear X1 X2 F1 F2 hx hy hq bw
    cases q with
    | true =>
     go_wp2_with (go_at_call 19;refine HC.out.mono ?_;rintro e w2 ⟨rfl,hb⟩)
     go_roundw
     case rel=>exact ⟨k+1,by omega,by go_num,HW.out.trans ((HBW.out.trans (hb.mono HBW.out.size)).mono hb1),(fun j x' y' hj hx' hy'=>by
      by_cases hjk:j<k
      ·exact HE.out j x' y' hjk hx' hy'
      ·obtain rfl:j=k:=by omega
       rw[HX.out]at hx';rw[HY.out]at hy';obtain rfl:=Option.some.inj hx';obtain rfl:=Option.some.inj hy';exact (zet _ _).1 HQ.out:∀ (j:Nat) (x y:Ex),j<k+1→xs[j]?=some x→ys[j]?=some y→x=y)⟩
     case measure=>simp[intOf];omega
    | false =>
     have HF:=hid (zsi HX.out HY.out HQ.out);go_wp2_with (go_at_call 19;refine HC.out.mono ?_;rintro e w2 ⟨rfl,hb⟩)
     go_ret
     rw[HF.out];exact ⟨rfl,HW.out.trans ((HBW.out.trans (hb.mono HBW.out.size)).mono hb1)⟩
   ·have HF:=hid (HALL.out fun j x y hx hy=>HE.out j x y (by have:=(yE.1 hx).1;have:=HN.out;omega) hx hy);go_wp2_with fail
    go_ret
    rw[HF.out];exact ⟨rfl,HW.out⟩
 ·have HF:=hid (zqh hne);have hne2:((xs.length:Int) != (ys.length:Int))=true:=by simp;omega
  have hne3:¬ (xs.length:Int)=(ys.length:Int):=by omega
  clear hA hB ih;go_enter func50,ntmps50
  go_wp2_with fail
  go_ret
  rw[HF.out];exact ⟨rfl,Below.refl _ _⟩
theorem zl3 (x:Ex) (ih:∀ a∈x.xs,EqOk a):EqOk x:=fun y sa sb ca cb w ok hA hB=>by
 have W2:=((Below.refl w.heap.size w).alloc (yG _) (.cells #[.int .i64 x.k,.string ⟨x.nm.toArray⟩,.int .i64 x.v.k,.int .i64 x.v.n,.string ⟨x.v.t.toArray⟩,.string ⟨x.op.toArray⟩,.slice sa x.xs.length ca] 27)).alloc (by simp) (.cells #[.int .i64 y.k,.string ⟨y.nm.toArray⟩,.int .i64 y.v.k,.int .i64 y.v.n,.string ⟨y.v.t.toArray⟩,.string ⟨y.op.toArray⟩,.slice sb y.xs.length cb] 27);have X:=(Box.new w [.int .i64 x.k,.string ⟨x.nm.toArray⟩,.int .i64 x.v.k,.int .i64 x.v.n,.string ⟨x.v.t.toArray⟩,.string ⟨x.op.toArray⟩,.slice sa x.xs.length ca] 27).alloc (.cells #[.int .i64 y.k,.string ⟨y.nm.toArray⟩,.int .i64 y.v.k,.int .i64 y.v.n,.string ⟨y.v.t.toArray⟩,.string ⟨y.op.toArray⟩,.slice sb y.xs.length cb] 27)
 have Y:=Box.new (w.alloc (.cells #[.int .i64 x.k,.string ⟨x.nm.toArray⟩,.int .i64 x.v.k,.int .i64 x.v.n,.string ⟨x.v.t.toArray⟩,.string ⟨x.op.toArray⟩,.slice sa x.xs.length ca] 27)) [.int .i64 y.k,.string ⟨y.nm.toArray⟩,.int .i64 y.v.k,.int .i64 y.v.n,.string ⟨y.v.t.toArray⟩,.string ⟨y.op.toArray⟩,.slice sb y.xs.length cb] 27;rw[World.size_alloc]at Y;have HF:=hid (zj2 x.xs y.xs ih sa sb ca cb _ ok (hA.below W2) (hB.below W2));have HB:=hid W2;have HM:=hid (ztB x y);clear hA hB ih;obtain ⟨k1,hk1⟩:∃ k,x.k=k:=⟨_,rfl⟩;obtain ⟨k2,hk2⟩:∃ k,y.k=k:=⟨_,rfl⟩;obtain ⟨n1,hn1⟩:∃ k:ByteArray,(⟨x.nm.toArray⟩:ByteArray)=k:=⟨_,rfl⟩;obtain ⟨n2,hn2⟩:∃ k:ByteArray,(⟨y.nm.toArray⟩:ByteArray)=k:=⟨_,rfl⟩;obtain ⟨vk1,hvk1⟩:∃ k,x.v.k=k:=⟨_,rfl⟩;obtain ⟨vk2,hvk2⟩:∃ k,y.v.k=k:=⟨_,rfl⟩;obtain ⟨vn1,hvn1⟩:∃ k,x.v.n=k:=⟨_,rfl⟩
 obtain ⟨vn2,hvn2⟩:∃ k,y.v.n=k:=⟨_,rfl⟩;obtain ⟨vt1,hvt1⟩:∃ k:ByteArray,(⟨x.v.t.toArray⟩:ByteArray)=k:=⟨_,rfl⟩;obtain ⟨vt2,hvt2⟩:∃ k:ByteArray,(⟨y.v.t.toArray⟩:ByteArray)=k:=⟨_,rfl⟩;obtain ⟨p1,hp1⟩:∃ k:ByteArray,(⟨x.op.toArray⟩:ByteArray)=k:=⟨_,rfl⟩;obtain ⟨p2,hp2⟩:∃ k:ByteArray,(⟨y.op.toArray⟩:ByteArray)=k:=⟨_,rfl⟩;have j1:x.nm=y.nm↔n1=n2:=by rw[← hn1,← hn2,zeg]
 have j2:x.v.t=y.v.t↔vt1=vt2:=by rw[← hvt1,← hvt2,zeg]
 have j3:x.op=y.op↔p1=p2:=by rw[← hp1,← hp2,zeg]
 have jv:x.v=y.v↔vk1=vk2∧vn1=vn2∧vt1=vt2:=by
  rw[← j2,← hvk1,← hvk2,← hvn1,← hvn2]
  cases x.v;cases y.v;simp
 have jk:x.k=y.k↔k1=k2:=by rw[← hk1,← hk2]
 rw[hk1,hn1,hvk1,hvn1,hvt1,hp1]at X HF HB;rw[hk2,hn2,hvk2,hvn2,hvt2,hp2]at X Y HF HB;try rw[hk1,hn1,hvk1,hvn1,hvt1,hp1]at Y
 have HX:Hid (exV x (.slice sa x.xs.length ca)=.agg #[.int .i64 k1,.string n1,.int .i64 vk1,.int .i64 vn1,.string vt1,.string p1,.slice sa x.xs.length ca]):=by show _=_;rw[← hk1,← hn1,← hvk1,← hvn1,← hvt1,← hp1]
 have HY:Hid (exV y (.slice sb y.xs.length cb)=.agg #[.int .i64 k2,.string n2,.int .i64 vk2,.int .i64 vn2,.string vt2,.string p2,.slice sb y.xs.length cb]):=by show _=_;rw[← hk2,← hn2,← hvk2,← hvn2,← hvt2,← hp2]
 rw[HX.out,HY.out];obtain ⟨q,hq⟩:∃ q,eqEs x.xs y.xs=q:=⟨_,rfl⟩;obtain ⟨r,hr⟩:∃ r,eqE x y=r:=⟨_,rfl⟩;rw[hq]at HF;rw[hr];have HR:Hid (r=(decide (k1=k2) && (decide (n1=n2) && (decide (vk1=vk2∧vn1=vn2∧vt1=vt2) && (decide (p1=p2) && q))))):=by
  show r=_
  rw[← hr,← hq,HM.out];simp only[decide_eq_decide.2 jk,decide_eq_decide.2 j1,decide_eq_decide.2 jv,decide_eq_decide.2 j3]
 clear hk1 hk2 hn1 hn2 hvk1 hvk2 hvn1 hvn2 hvt1 hvt2 hp1 hp2 j1 j2 j3 jv jk hq hr HM HX HY W2;generalize x.xs.length=lx at *
 generalize y.xs.length=ly at *
 by_cases h1:k1=k2
 ·subst h1;by_cases h2:n1=n2
  ·subst h2;by_cases h3:vk1=vk2∧vn1=vn2∧vt1=vt2
   ·obtain ⟨rfl,rfl,rfl⟩:=h3;by_cases h4:p1=p2
    ·subst h4;have HE:Hid (r=q):=by show r=q;rw[HR.out];simp
     clear HR;go_enter func19,ntmps19
     obtain ⟨x0,x1,x2,x3,x4,x5,x6⟩:=X.seven;obtain ⟨y0,y1,y2,y3,y4,y5,y6⟩:=Y.seven;go_wp2_with (go_at_call 50;refine HF.out.mono ?_;rintro e w2 ⟨rfl,hb⟩)
     go_ret
     rw[HE.out];exact ⟨rfl,HB.out.trans (hb.mono HB.out.size)⟩
    ·have HE:Hid (r=false):=by show r=false;rw[HR.out,yN h4];simp
     have e4:(p1.toList == p2.toList)=false:=str_q ⟨fun e=>absurd e h4,fun e=>by cases e⟩;clear HR h4;go_enter func19,ntmps19
     obtain ⟨x0,x1,x2,x3,x4,x5,x6⟩:=X.seven;obtain ⟨y0,y1,y2,y3,y4,y5,y6⟩:=Y.seven;go_wp2_with fail
     go_ret
     rw[HE.out];exact ⟨rfl,HB.out⟩
   ·have HE:Hid (r=false):=by show r=false;rw[HR.out,yN h3];simp
    clear HR;by_cases g1:vk1=vk2
    ·subst g1;by_cases g2:vn1=vn2
     ·subst g2;have g3:¬ vt1=vt2:=fun e=>h3 ⟨rfl,rfl,e⟩
      have e3:(vt1.toList == vt2.toList)=false:=str_q ⟨fun e=>absurd e g3,fun e=>by cases e⟩;clear h3 g3;go_enter func19,ntmps19
      obtain ⟨x0,x1,x2,x3,x4,x5,x6⟩:=X.seven;obtain ⟨y0,y1,y2,y3,y4,y5,y6⟩:=Y.seven;go_wp2_with fail
      go_ret
      rw[HE.out];exact ⟨rfl,HB.out⟩
     ·have e3:(vn1 == vn2)=false:=by simpa using g2
      clear h3 g2;go_enter func19,ntmps19
      obtain ⟨x0,x1,x2,x3,x4,x5,x6⟩:=X.seven;obtain ⟨y0,y1,y2,y3,y4,y5,y6⟩:=Y.seven;go_wp2_with fail
      go_ret
      rw[HE.out];exact ⟨rfl,HB.out⟩
    ·have e3:(vk1 == vk2)=false:=by simpa using g1
     clear h3 g1;go_enter func19,ntmps19
     obtain ⟨x0,x1,x2,x3,x4,x5,x6⟩:=X.seven;obtain ⟨y0,y1,y2,y3,y4,y5,y6⟩:=Y.seven;go_wp2_with fail
     go_ret
     rw[HE.out];exact ⟨rfl,HB.out⟩
  ·have HE:Hid (r=false):=by show r=false;rw[HR.out,yN h2];simp
   have e2:(n1.toList == n2.toList)=false:=str_q ⟨fun e=>absurd e h2,fun e=>by cases e⟩;clear HR h2;go_enter func19,ntmps19
   obtain ⟨x0,x1,x2,x3,x4,x5,x6⟩:=X.seven;obtain ⟨y0,y1,y2,y3,y4,y5,y6⟩:=Y.seven;go_wp2_with fail
   go_ret
   rw[HE.out];exact ⟨rfl,HB.out⟩
 ·have HE:Hid (r=false):=by show r=false;rw[HR.out,yN h1];rfl
  have e1:(k1 == k2)=false:=by simpa using h1
  clear HR h1;go_enter func19,ntmps19
  obtain ⟨x0,x1,x2,x3,x4,x5,x6⟩:=X.seven;obtain ⟨y0,y1,y2,y3,y4,y5,y6⟩:=Y.seven;go_wp2_with fail
  go_ret
  rw[HE.out];exact ⟨rfl,HB.out⟩
theorem zdY:∀ x,EqOk x:=Ex.ind fun k nm v op xs h=>zl3 (.mk k nm v op xs) h
