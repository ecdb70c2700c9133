/- Definitions in memory; a definition is found equal to itself. -/
import Derived.Test.YtonkjhmkppeagaaGreatDoorWEq
import Derived.Test.YtonkjhmkppeagaaGreatDoorWQf
set_option maxRecDepth 100000
set_option maxHeartbeats 6400000
set_option linter.unusedVariables false
set_option linter.unusedSimpArgs false
namespace Go.Proofs.YtonkjhmkppeagaaGreatDoor.Pz
open Go.Proofs.Tryz
open Go.Lib (hid)
open Go.RowKit Go Go.Sort Ba Lx
structure DfAt (W:World) (ok:Nat→Prop) (x:Df) (s0 s1 s2:Value) (ps:List Value):Prop where
 sch:Rep W ok (.sl 2 (x.sch.map colD)) s0
 ins:Rep W ok (.sl 4 (x.ins.map inpD)) s1
 plan:Row W ok (plD x.plan) ps
 mks:Rep W ok (.sl 1 (x.mks.map strD)) s2
theorem zh3 {W:World} {ok:Nat→Prop} {x:Df} {s0 s1 s2:Value} {ps:List Value} (h:DfAt W ok x s0 s1 s2 ps):Row W ok (dfD x) ([.int .i64 x.k,.string ⟨x.nm.toArray⟩,s0,.int .i64 x.sc.k,.int .i64 x.sc.f,.int .i64 x.sc.l,s1]++(ps++[.string ⟨x.cron.toArray⟩,s2])):=by
 unfold dfD scD;simp only[List.cons_append,List.nil_append,yM];refine .cons (.v _ rfl) (.cons (.v _ rfl) (.cons h.sch (.cons (.v _ rfl) (.cons (.v _ rfl) (.cons (.v _ rfl) (.cons h.ins ?_))))));exact h.plan.app (.cons (.v _ rfl) (.cons h.mks (Row.nil _ _)))
theorem zi8 {W:World} {ok:Nat→Prop} {x:Df} {cs:List Value} (h:Row W ok (dfD x) cs):∃ s0 s1 s2 ps,cs=[.int .i64 x.k,.string ⟨x.nm.toArray⟩,s0,.int .i64 x.sc.k,.int .i64 x.sc.f,.int .i64 x.sc.l,s1]++(ps++[.string ⟨x.cron.toArray⟩,s2])∧DfAt W ok x s0 s1 s2 ps:=by
 unfold dfD scD at h;simp only[List.cons_append,List.nil_append,yM]at h;obtain ⟨c0,r0,rfl,h0,h⟩:=h.uncons;obtain ⟨c1,r1,rfl,h1,h⟩:=h.uncons;obtain ⟨c2,r2,rfl,h2,h⟩:=h.uncons;obtain ⟨c3,r3,rfl,h3,h⟩:=h.uncons;obtain ⟨c4,r4,rfl,h4,h⟩:=h.uncons;obtain ⟨c5,r5,rfl,h5,h⟩:=h.uncons;obtain ⟨c6,r6,rfl,h6,h⟩:=h.uncons;obtain ⟨pc,r7,rfl,h7,h⟩:=zjz h;obtain ⟨c8,r8,rfl,h8,h⟩:=h.uncons;obtain ⟨c9,r9,rfl,h9,h⟩:=h.uncons;obtain rfl:=h.unnil;obtain rfl:=h0.val;obtain rfl:=h1.val;obtain rfl:=h3.val;obtain rfl:=h4.val;obtain rfl:=h5.val;obtain rfl:=h8.val;exact ⟨c2,c6,c9,pc,rfl,⟨h2,h6,h7,h9⟩⟩
theorem DfAt.below {W W':World} {ok:Nat→Prop} {x:Df} {s0 s1 s2:Value} {ps:List Value} (h:DfAt W ok x s0 s1 s2 ps) (g:Below W.heap.size W W'):DfAt W' ok x s0 s1 s2 ps :=
 ⟨h.sch.kept (S:=fun _=>False) (Kept.of_below g) (fun _ _ _ x=>x),h.ins.kept (S:=fun _=>False) (Kept.of_below g) (fun _ _ _ x=>x),h.plan.kept (S:=fun _=>False) (Kept.of_below g) (fun _ _ _ x=>x),h.mks.kept (S:=fun _=>False) (Kept.of_below g) (fun _ _ _ x=>x)⟩
theorem ziS {ps:List Value} (h:ps.length=16):∃ p0 p1 p2 p3 p4 p5 p6 p7 p8 p9 pa pb pc pd pe pf,ps=[p0,p1,p2,p3,p4,p5,p6,p7,p8,p9,pa,pb,pc,pd,pe,pf]:=by
 match ps,h with
 | [p0,p1,p2,p3,p4,p5,p6,p7,p8,p9,pa,pb,pc,pd,pe,pf],_=>exact ⟨p0,p1,p2,p3,p4,p5,p6,p7,p8,p9,pa,pb,pc,pd,pe,pf,rfl⟩
theorem zm5 (x:Pl):(plD x).length=16:=by rw[ziF];rfl
theorem Row.len16 {W:World} {ok:Nat→Prop} {x:Pl} {ps:List Value} (h:Row W ok (plD x) ps):ps.length=16:=by rw[← h.1,zm5]
abbrev dfV (x:Df) (s0 s1 s2:Value) (ps:List Value):Value:=.agg ([.int .i64 x.k,.string ⟨x.nm.toArray⟩,s0,.int .i64 x.sc.k,.int .i64 x.sc.f,.int .i64 x.sc.l,s1]++(ps++[.string ⟨x.cron.toArray⟩,s2])).toArray
theorem zpj (l:List (Str×Int)) (sa sb:Option Addr) (ca cb:Nat) (w:World) (o1 o2:Nat→Prop) (hA:Rep w o1 (.sl 2 (l.map colD)) (.slice sa l.length ca)) (hB:Rep w o2 (.sl 2 (l.map colD)) (.slice sb l.length cb)) :
 Calls Tryz.prog 67 #[.slice sa l.length ca,.slice sb l.length cb] w (EqTo w true):=by
 have HC:Hid (Calls Tryz.prog 95 #[.slice sa l.length ca,.slice sb l.length cb] w (EqTo w true)):=ztu l sa sb ca cb w o1 o2 hA hB;obtain ⟨n,hn⟩:∃ n,l.length=n:=⟨_,rfl⟩;rw[hn]at HC ⊢;clear hA hB hn;go_enter func67,ntmps67
 go_wp2_with (go_at_call 95;(with_reducible (refine HC.out.mono ?_));rintro e wc ⟨rfl,hb⟩)
 go_ret
 exact ⟨rfl,hb⟩
theorem zqn (K S0 S1 S2:Int) (N C:ByteArray) (s0 s1 s2 t0 t1 t2 p0 p1 p2 p3 p4 p5 p6 p7 p8 p9 pa pb pc pd pe pf q0 q1 q2 q3 q4 q5 q6 q7 q8 q9 qa qb qc qd qe qf:Value) (w:World)
 (H2:Hid (∀ W,Below w.heap.size w W→Calls Tryz.prog 67 #[s0,t0] W (EqTo W true)))
 (H6:Hid (∀ W,Below w.heap.size w W→Calls Tryz.prog 68 #[s1,t1] W (EqTo W true)))
 (H7:Hid (∀ W,Below w.heap.size w W→Calls Tryz.prog 31 #[.agg #[p0,p1,p2,p3,p4,p5,p6,p7,p8,p9,pa,pb,pc,pd,pe,pf],.agg #[q0,q1,q2,q3,q4,q5,q6,q7,q8,q9,qa,qb,qc,qd,qe,qf]] W (EqTo W true)))
 (H24:Hid (∀ W,Below w.heap.size w W→Calls Tryz.prog 57 #[s2,t2] W (EqTo W true)))
 : Calls Tryz.prog 34 #[.agg #[.int .i64 K,.string N,s0,.int .i64 S0,.int .i64 S1,.int .i64 S2,s1,p0,p1,p2,p3,p4,p5,p6,p7,p8,p9,pa,pb,pc,pd,pe,pf,.string C,s2],.agg #[.int .i64 K,.string N,t0,.int .i64 S0,.int .i64 S1,.int .i64 S2,t1,q0,q1,q2,q3,q4,q5,q6,q7,q8,q9,qa,qb,qc,qd,qe,qf,.string C,t2]] w (EqTo w true):=by
 have H:=hid (St.start (S:=fun _=>False) w);go_enter func34,ntmps34
 go_wp2_with (first|(refine St.w_box (vs:=[.int .i64 K,.string N,s0,.int .i64 S0,.int .i64 S1,.int .i64 S2,s1,p0,p1,p2,p3,p4,p5,p6,p7,p8,p9,pa,pb,pc,pd,pe,pf,.string C,s2]) H.out (by rfl) rfl rfl rfl ?_;intro wn X _ _ H2;replace H:=hid H2;clear H2)|(refine St.w_box (vs:=[.int .i64 K,.string N,t0,.int .i64 S0,.int .i64 S1,.int .i64 S2,t1,q0,q1,q2,q3,q4,q5,q6,q7,q8,q9,qa,qb,qc,qd,qe,qf,.string C,t2]) H.out (by rfl) rfl rfl rfl ?_;intro wn Y _ _ H2;replace H:=hid H2;clear H2)|(first|(refine St.w_load1 (ty:=3) H.out (by rfl) rfl rfl 0 rfl rfl uInt_ ?_)|(refine St.w_load1 (ty:=3) H.out (by rfl) rfl rfl 1 rfl rfl uInt_ ?_))|(first|(refine St.w_load1 (ty:=9) H.out (by rfl) rfl rfl 0 rfl rfl uStr_ ?_)|(refine St.w_load1 (ty:=9) H.out (by rfl) rfl rfl 1 rfl rfl uStr_ ?_))|(first|(refine St.w_load1 (ty:=83) H.out (by rfl) rfl rfl 0 rfl rfl uSch_ ?_)|(refine St.w_load1 (ty:=83) H.out (by rfl) rfl rfl 1 rfl rfl uSch_ ?_))|(first|(refine St.w_load1 (ty:=86) H.out (by rfl) rfl rfl 0 rfl rfl uSIn_ ?_)|(refine St.w_load1 (ty:=86) H.out (by rfl) rfl rfl 1 rfl rfl uSIn_ ?_))|(first|(refine St.w_load1 (ty:=48) H.out (by rfl) rfl rfl 0 rfl rfl zeB ?_)|(refine St.w_load1 (ty:=48) H.out (by rfl) rfl rfl 1 rfl rfl zeB ?_))|(first|(refine St.w_loadm (ty:=85) (cs:=[.int .i64 S0,.int .i64 S1,.int .i64 S2]) H.out (by rfl) rfl rfl 1 rfl rfl uSc_ sSc_ ?_)|(refine St.w_loadm (ty:=85) (cs:=[.int .i64 S0,.int .i64 S1,.int .i64 S2]) H.out (by rfl) rfl rfl 0 rfl rfl uSc_ sSc_ ?_))|(first|(refine St.w_loadm (ty:=57) (cs:=[p0,p1,p2,p3,p4,p5,p6,p7,p8,p9,pa,pb,pc,pd,pe,pf]) H.out (by rfl) rfl rfl 1 rfl rfl uPl_ sPl_ ?_)|(refine St.w_loadm (ty:=57) (cs:=[q0,q1,q2,q3,q4,q5,q6,q7,q8,q9,qa,qb,qc,qd,qe,qf]) H.out (by rfl) rfl rfl 0 rfl rfl uPl_ sPl_ ?_))|(go_at_call 67;(with_reducible (refine (H2.out _ (zac H.out)).mono ?_));rintro e wc ⟨rfl,hb⟩;replace H:=hid (H.out.below hb);clear hb)|(go_at_call 68;(with_reducible (refine (H6.out _ (zac H.out)).mono ?_));rintro e wc ⟨rfl,hb⟩;replace H:=hid (H.out.below hb);clear hb)|(go_at_call 31;(with_reducible (refine (H7.out _ (zac H.out)).mono ?_));rintro e wc ⟨rfl,hb⟩;replace H:=hid (H.out.below hb);clear hb)|(go_at_call 57;(with_reducible (refine (H24.out _ (zac H.out)).mono ?_));rintro e wc ⟨rfl,hb⟩;replace H:=hid (H.out.below hb);clear hb))
 go_ret
 exact ⟨rfl,zac H.out⟩
theorem zsl (x:Df) (s0 s1 s2 t0 t1 t2:Value) (ps qs:List Value) (w:World) (o1 o2:Nat→Prop) (hA:DfAt w o1 x s0 s1 s2 ps) (hB:DfAt w o2 x t0 t1 t2 qs) :
 Calls Tryz.prog 34 #[dfV x s0 s1 s2 ps,dfV x t0 t1 t2 qs] w (EqTo w true):=by
 obtain ⟨p0,p1,p2,p3,p4,p5,p6,p7,p8,p9,pa,pb,pc,pd,pe,pf,rfl⟩:=ziS hA.plan.len16;obtain ⟨q0,q1,q2,q3,q4,q5,q6,q7,q8,q9,qa,qb,qc,qd,qe,qf,rfl⟩:=ziS hB.plan.len16;refine zqn x.k x.sc.k x.sc.f x.sc.l ⟨x.nm.toArray⟩ ⟨x.cron.toArray⟩ s0 s1 s2 t0 t1 t2 p0 p1 p2 p3 p4 p5 p6 p7 p8 p9 pa pb pc pd pe pf q0 q1 q2 q3 q4 q5 q6 q7 q8 q9 qa qb qc qd qe qf w (fun W hb=>?_) (fun W hb=>?_) (fun W hb=>?_) (fun W hb=>?_)
 ·have ha:=(hA.below hb).sch;have hc:=(hB.below hb).sch;obtain ⟨a1,c1,rfl,_⟩:=ha.len;obtain ⟨a2,c2,rfl,_⟩:=hc.len;rw[yC]at ha hc ⊢;exact zpj x.sch _ _ _ _ W _ _ ha hc
 ·have ha:=(hA.below hb).ins;have hc:=(hB.below hb).ins;obtain ⟨a1,c1,rfl,_⟩:=ha.len;obtain ⟨a2,c2,rfl,_⟩:=hc.len;rw[yC]at ha hc ⊢;exact ztt x.ins _ _ _ _ W _ _ ha hc
 ·have ha:=(hA.below hb).plan;have hc:=(hB.below hb).plan;obtain ⟨a0,ac0,a1,ac1,a2,ac2,a3,ac3,a4,ac4,a5,ac5,a6,ac6,e1,h1⟩:=zcb (ha.weak (ok':=fun _=>True) fun _ _ _=>trivial);obtain ⟨b0,bc0,b1,bc1,b2,bc2,b3,bc3,b4,bc4,b5,bc5,b6,bc6,e2,h2⟩:=zcb (hc.weak (ok':=fun _=>True) fun _ _ _=>trivial);have:=ziD x.plan a0 ac0 a1 ac1 a2 ac2 a3 ac3 a4 ac4 a5 ac5 a6 ac6 b0 bc0 b1 bc1 b2 bc2 b3 bc3 b4 bc4 b5 bc5 b6 bc6 W (fun _=>True) h1 h2;unfold plV at this;rw[← e1,← e2]at this;exact this
 ·have ha:=(hA.below hb).mks;have hc:=(hB.below hb).mks;obtain ⟨a1,c1,rfl,_⟩:=ha.len;obtain ⟨a2,c2,rfl,_⟩:=hc.len;rw[yC]at ha hc ⊢;exact zok x.mks _ _ _ _ W _ _ ha hc
theorem zom (x:Df) (cs ds:List Value) (w:World) (o1 o2:Nat→Prop) (hA:Row w o1 (dfD x) cs) (hB:Row w o2 (dfD x) ds):Calls Tryz.prog 34 #[.agg cs.toArray,.agg ds.toArray] w (EqTo w true):=by
 obtain ⟨s0,s1,s2,ps,rfl,hA2⟩:=zi8 hA;obtain ⟨t0,t1,t2,qs,rfl,hB2⟩:=zi8 hB;exact zsl x s0 s1 s2 t0 t1 t2 ps qs w o1 o2 hA2 hB2
