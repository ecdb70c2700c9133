/- Walks: are two definitions one, where the second one's plan is flat? -/
import Derived.Test.YtonkjhmkppeagaaGreatDoorVEqG
import Derived.Test.YtonkjhmkppeagaaGreatDoorVShH
set_option maxRecDepth 100000
set_option maxHeartbeats 25600000
set_option linter.unusedVariables false
set_option linter.unusedSimpArgs false
namespace Go.Proofs.YtonkjhmkppeagaaGreatDoor.Pz
open Go.Proofs.Tryz
open Go.Lib (hid)
open Go.RowKit Go Go.Sort Ba Lx
theorem i_ne {a b:Int} (h:a≠b):(a == b)=false:=by rw[beq_eq_false_iff_ne];exact h
theorem b_ne {a b:ByteArray} (h:a≠b):(a.toList == b.toList)=false:=str_q ⟨fun e=>absurd e h,fun e=>by cases e⟩
theorem zly (K K2 C C2 X0 X2 X3 Y0 Y2 Y3:Int) (N N2 X1 X4 X5 Y1 Y4 Y5:ByteArray) (a0 b0 a1 b1 a2 b2 a3 b3 a4 b4 a5 b5 a6 b6:Option Addr) (L0 ac0 bc0 L1 ac1 bc1 L2 ac2 bc2 L3 ac3 bc3 L4 ac4 bc4 L5 ac5 bc5 L6 ac6 bc6:Nat) (q r0 r1 r2 r3 r4 r5 r6:Bool) (w:World)
 (H0:Hid (∀ W,Below w.heap.size w W→Calls Tryz.prog 56 #[.slice a0 L0 ac0,.slice b0 0 bc0,.func (.func 31) #[] #[]] W (EqTo W r0)))
 (H1:Hid (∀ W,Below w.heap.size w W→Calls Tryz.prog 19 #[.agg #[.int .i64 X0,.string X1,.int .i64 X2,.int .i64 X3,.string X4,.string X5,.slice a1 L1 ac1],.agg #[.int .i64 Y0,.string Y1,.int .i64 Y2,.int .i64 Y3,.string Y4,.string Y5,.slice b1 0 bc1]] W (EqTo W r1)))
 (H2:Hid (∀ W,Below w.heap.size w W→Calls Tryz.prog 57 #[.slice a2 L2 ac2,.slice b2 0 bc2] W (EqTo W r2)))
 (H3:Hid (∀ W,Below w.heap.size w W→Calls Tryz.prog 50 #[.slice a3 L3 ac3,.slice b3 0 bc3,.func (.func 19) #[] #[]] W (EqTo W r3)))
 (H4:Hid (∀ W,Below w.heap.size w W→Calls Tryz.prog 58 #[.slice a4 L4 ac4,.slice b4 0 bc4] W (EqTo W r4)))
 (H5:Hid (∀ W,Below w.heap.size w W→Calls Tryz.prog 59 #[.slice a5 L5 ac5,.slice b5 0 bc5] W (EqTo W r5)))
 (H6:Hid (∀ W,Below w.heap.size w W→Calls Tryz.prog 60 #[.slice a6 L6 ac6,.slice b6 0 bc6] W (EqTo W r6)))
 (hor:(K≠K2∧q=false)∨(K=K2∧N≠N2∧q=false)∨(K=K2∧N=N2∧r0=false∧q=false)∨(K=K2∧N=N2∧r0=true∧r1=false∧q=false)∨(K=K2∧N=N2∧r0=true∧r1=true∧r2=false∧q=false)∨(K=K2∧N=N2∧r0=true∧r1=true∧r2=true∧r3=false∧q=false)∨(K=K2∧N=N2∧r0=true∧r1=true∧r2=true∧r3=true∧r4=false∧q=false)∨(K=K2∧N=N2∧r0=true∧r1=true∧r2=true∧r3=true∧r4=true∧r5=false∧q=false)∨(K=K2∧N=N2∧r0=true∧r1=true∧r2=true∧r3=true∧r4=true∧r5=true∧r6=false∧q=false)∨(K=K2∧N=N2∧r0=true∧r1=true∧r2=true∧r3=true∧r4=true∧r5=true∧r6=true∧C≠C2∧q=false)∨(K=K2∧N=N2∧r0=true∧r1=true∧r2=true∧r3=true∧r4=true∧r5=true∧r6=true∧C=C2∧q=true)) :
 Calls Tryz.prog 31 #[.agg #[.int .i64 K,.string N,.slice a0 L0 ac0,.int .i64 X0,.string X1,.int .i64 X2,.int .i64 X3,.string X4,.string X5,.slice a1 L1 ac1,.slice a2 L2 ac2,.slice a3 L3 ac3,.slice a4 L4 ac4,.slice a5 L5 ac5,.slice a6 L6 ac6,.int .i64 C],.agg #[.int .i64 K2,.string N2,.slice b0 0 bc0,.int .i64 Y0,.string Y1,.int .i64 Y2,.int .i64 Y3,.string Y4,.string Y5,.slice b1 0 bc1,.slice b2 0 bc2,.slice b3 0 bc3,.slice b4 0 bc4,.slice b5 0 bc5,.slice b6 0 bc6,.int .i64 C2]] w (EqTo w q):=by
 have W2:=((Below.refl w.heap.size w).alloc (yG _) (.cells #[.int .i64 K,.string N,.slice a0 L0 ac0,.int .i64 X0,.string X1,.int .i64 X2,.int .i64 X3,.string X4,.string X5,.slice a1 L1 ac1,.slice a2 L2 ac2,.slice a3 L3 ac3,.slice a4 L4 ac4,.slice a5 L5 ac5,.slice a6 L6 ac6,.int .i64 C] 57)).alloc (by simp) (.cells #[.int .i64 K2,.string N2,.slice b0 0 bc0,.int .i64 Y0,.string Y1,.int .i64 Y2,.int .i64 Y3,.string Y4,.string Y5,.slice b1 0 bc1,.slice b2 0 bc2,.slice b3 0 bc3,.slice b4 0 bc4,.slice b5 0 bc5,.slice b6 0 bc6,.int .i64 C2] 57)
 have X:=(Box.new w [.int .i64 K,.string N,.slice a0 L0 ac0,.int .i64 X0,.string X1,.int .i64 X2,.int .i64 X3,.string X4,.string X5,.slice a1 L1 ac1,.slice a2 L2 ac2,.slice a3 L3 ac3,.slice a4 L4 ac4,.slice a5 L5 ac5,.slice a6 L6 ac6,.int .i64 C] 57).alloc (.cells #[.int .i64 K2,.string N2,.slice b0 0 bc0,.int .i64 Y0,.string Y1,.int .i64 Y2,.int .i64 Y3,.string Y4,.string Y5,.slice b1 0 bc1,.slice b2 0 bc2,.slice b3 0 bc3,.slice b4 0 bc4,.slice b5 0 bc5,.slice b6 0 bc6,.int .i64 C2] 57)
 have Y:=Box.new (w.alloc (.cells #[.int .i64 K,.string N,.slice a0 L0 ac0,.int .i64 X0,.string X1,.int .i64 X2,.int .i64 X3,.string X4,.string X5,.slice a1 L1 ac1,.slice a2 L2 ac2,.slice a3 L3 ac3,.slice a4 L4 ac4,.slice a5 L5 ac5,.slice a6 L6 ac6,.int .i64 C] 57)) [.int .i64 K2,.string N2,.slice b0 0 bc0,.int .i64 Y0,.string Y1,.int .i64 Y2,.int .i64 Y3,.string Y4,.string Y5,.slice b1 0 bc1,.slice b2 0 bc2,.slice b3 0 bc3,.slice b4 0 bc4,.slice b5 0 bc5,.slice b6 0 bc6,.int .i64 C2] 57;rw[World.size_alloc]at Y;have HB:=hid W2;have X:=hid X;have Y:=hid Y;clear W2
 rcases hor with ⟨h,rfl⟩|⟨rfl,h,rfl⟩|⟨rfl,rfl,rfl,rfl⟩|⟨rfl,rfl,rfl,rfl,rfl⟩|⟨rfl,rfl,rfl,rfl,rfl,rfl⟩|⟨rfl,rfl,rfl,rfl,rfl,rfl,rfl⟩|⟨rfl,rfl,rfl,rfl,rfl,rfl,rfl,rfl⟩|⟨rfl,rfl,rfl,rfl,rfl,rfl,rfl,rfl,rfl⟩|⟨rfl,rfl,rfl,rfl,rfl,rfl,rfl,rfl,rfl,rfl⟩|⟨rfl,rfl,rfl,rfl,rfl,rfl,rfl,rfl,rfl,h,rfl⟩|⟨rfl,rfl,rfl,rfl,rfl,rfl,rfl,rfl,rfl,rfl,rfl⟩
 all_goals first|(have t1:=i_ne h;clear h)|(have t1:=b_ne h;clear h)|skip
 all_goals as_aux_lemma =>
  go_enter func31,ntmps31
  have x0:=X.out.cl 0 _ rfl;have y0:=Y.out.cl 0 _ rfl;have x1:=X.out.cl 1 _ rfl;have y1:=Y.out.cl 1 _ rfl;have x2:=X.out.cl 2 _ rfl;have y2:=Y.out.cl 2 _ rfl
  go_wp2_with (first|(go_at_call 56;(with_reducible (refine (H0.out _ HB.out).mono ?_));rintro e wc ⟨rfl,hb⟩;have HB2:=hid (two HB.out hb);clear HB;have HB:=HB2;clear HB2;have X1:=hid (X.out.next hb);have Y1:=hid (Y.out.next hb);clear X Y hb;have X:=X1;have Y:=Y1;clear X1 Y1;have x3:=X.out.cl 3 _ rfl;have y3:=Y.out.cl 3 _ rfl;have x4:=X.out.cl 4 _ rfl;have y4:=Y.out.cl 4 _ rfl;have x5:=X.out.cl 5 _ rfl;have y5:=Y.out.cl 5 _ rfl;have x6:=X.out.cl 6 _ rfl;have y6:=Y.out.cl 6 _ rfl;have x7:=X.out.cl 7 _ rfl;have y7:=Y.out.cl 7 _ rfl;have x8:=X.out.cl 8 _ rfl;have y8:=Y.out.cl 8 _ rfl;have x9:=X.out.cl 9 _ rfl;have y9:=Y.out.cl 9 _ rfl)|(go_at_call 19;(with_reducible (refine (H1.out _ HB.out).mono ?_));rintro e wc ⟨rfl,hb⟩;have HB2:=hid (two HB.out hb);clear HB;have HB:=HB2;clear HB2;have X1:=hid (X.out.next hb);have Y1:=hid (Y.out.next hb);clear X Y hb;have X:=X1;have Y:=Y1;clear X1 Y1;have x10:=X.out.cl 10 _ rfl;have y10:=Y.out.cl 10 _ rfl)|(go_at_call 57;(with_reducible (refine (H2.out _ HB.out).mono ?_));rintro e wc ⟨rfl,hb⟩;have HB2:=hid (two HB.out hb);clear HB;have HB:=HB2;clear HB2;have X1:=hid (X.out.next hb);have Y1:=hid (Y.out.next hb);clear X Y hb;have X:=X1;have Y:=Y1;clear X1 Y1;have x11:=X.out.cl 11 _ rfl;have y11:=Y.out.cl 11 _ rfl)|(go_at_call 50;(with_reducible (refine (H3.out _ HB.out).mono ?_));rintro e wc ⟨rfl,hb⟩;have HB2:=hid (two HB.out hb);clear HB;have HB:=HB2;clear HB2;have X1:=hid (X.out.next hb);have Y1:=hid (Y.out.next hb);clear X Y hb;have X:=X1;have Y:=Y1;clear X1 Y1;have x12:=X.out.cl 12 _ rfl;have y12:=Y.out.cl 12 _ rfl)|(go_at_call 58;(with_reducible (refine (H4.out _ HB.out).mono ?_));rintro e wc ⟨rfl,hb⟩;have HB2:=hid (two HB.out hb);clear HB;have HB:=HB2;clear HB2;have X1:=hid (X.out.next hb);have Y1:=hid (Y.out.next hb);clear X Y hb;have X:=X1;have Y:=Y1;clear X1 Y1;have x13:=X.out.cl 13 _ rfl;have y13:=Y.out.cl 13 _ rfl)|(go_at_call 59;(with_reducible (refine (H5.out _ HB.out).mono ?_));rintro e wc ⟨rfl,hb⟩;have HB2:=hid (two HB.out hb);clear HB;have HB:=HB2;clear HB2;have X1:=hid (X.out.next hb);have Y1:=hid (Y.out.next hb);clear X Y hb;have X:=X1;have Y:=Y1;clear X1 Y1;have x14:=X.out.cl 14 _ rfl;have y14:=Y.out.cl 14 _ rfl)|(go_at_call 60;(with_reducible (refine (H6.out _ HB.out).mono ?_));rintro e wc ⟨rfl,hb⟩;have HB2:=hid (two HB.out hb);clear HB;have HB:=HB2;clear HB2;have X1:=hid (X.out.next hb);have Y1:=hid (Y.out.next hb);clear X Y hb;have X:=X1;have Y:=Y1;clear X1 Y1;have x15:=X.out.cl 15 _ rfl;have y15:=Y.out.cl 15 _ rfl))
  go_ret
  exact ⟨rfl,HB.out⟩
theorem zos (K K2 S0 S1 S2 T0 T1 T2:Int) (N N2 C C2:ByteArray) (s0 s1 s2 t0 t1 t2 p0 p1 p2 p3 p4 p5 p6 p7 p8 p9 pa pb pc pd pe pf q0 q1 q2 q3 q4 q5 q6 q7 q8 q9 qa qb qc qd qe qf:Value) (q r2 r4 r5 r7:Bool) (w:World)
 (H2:Hid (∀ W,Below w.heap.size w W→Calls Tryz.prog 67 #[s0,t0] W (EqTo W r2)))
 (H4:Hid (∀ W,Below w.heap.size w W→Calls Tryz.prog 68 #[s1,t1] W (EqTo W r4)))
 (H5:Hid (∀ W,Below w.heap.size w W→Calls Tryz.prog 31 #[.agg #[p0,p1,p2,p3,p4,p5,p6,p7,p8,p9,pa,pb,pc,pd,pe,pf],.agg #[q0,q1,q2,q3,q4,q5,q6,q7,q8,q9,qa,qb,qc,qd,qe,qf]] W (EqTo W r5)))
 (H7:Hid (∀ W,Below w.heap.size w W→Calls Tryz.prog 57 #[s2,t2] W (EqTo W r7)))
 (hor:(K≠K2∧q=false)∨(K=K2∧N≠N2∧q=false)∨(K=K2∧N=N2∧r2=false∧q=false)∨(K=K2∧N=N2∧r2=true∧S0≠T0∧q=false)∨(K=K2∧N=N2∧r2=true∧S0=T0∧S1≠T1∧q=false)∨(K=K2∧N=N2∧r2=true∧S0=T0∧S1=T1∧S2≠T2∧q=false)∨(K=K2∧N=N2∧r2=true∧S0=T0∧S1=T1∧S2=T2∧r4=false∧q=false)∨(K=K2∧N=N2∧r2=true∧S0=T0∧S1=T1∧S2=T2∧r4=true∧r5=false∧q=false)∨(K=K2∧N=N2∧r2=true∧S0=T0∧S1=T1∧S2=T2∧r4=true∧r5=true∧C≠C2∧q=false)∨(K=K2∧N=N2∧r2=true∧S0=T0∧S1=T1∧S2=T2∧r4=true∧r5=true∧C=C2∧r7=false∧q=false)∨(K=K2∧N=N2∧r2=true∧S0=T0∧S1=T1∧S2=T2∧r4=true∧r5=true∧C=C2∧r7=true∧q=true)) :
 Calls Tryz.prog 34 #[.agg #[.int .i64 K,.string N,s0,.int .i64 S0,.int .i64 S1,.int .i64 S2,s1,p0,p1,p2,p3,p4,p5,p6,p7,p8,p9,pa,pb,pc,pd,pe,pf,.string C,s2],.agg #[.int .i64 K2,.string N2,t0,.int .i64 T0,.int .i64 T1,.int .i64 T2,t1,q0,q1,q2,q3,q4,q5,q6,q7,q8,q9,qa,qb,qc,qd,qe,qf,.string C2,t2]] w (EqTo w q):=by
 have W2:=((Below.refl w.heap.size w).alloc (yG _) (.cells #[.int .i64 K,.string N,s0,.int .i64 S0,.int .i64 S1,.int .i64 S2,s1,p0,p1,p2,p3,p4,p5,p6,p7,p8,p9,pa,pb,pc,pd,pe,pf,.string C,s2] 88)).alloc (by simp) (.cells #[.int .i64 K2,.string N2,t0,.int .i64 T0,.int .i64 T1,.int .i64 T2,t1,q0,q1,q2,q3,q4,q5,q6,q7,q8,q9,qa,qb,qc,qd,qe,qf,.string C2,t2] 88);have X:=(Box.new w [.int .i64 K,.string N,s0,.int .i64 S0,.int .i64 S1,.int .i64 S2,s1,p0,p1,p2,p3,p4,p5,p6,p7,p8,p9,pa,pb,pc,pd,pe,pf,.string C,s2] 88).alloc (.cells #[.int .i64 K2,.string N2,t0,.int .i64 T0,.int .i64 T1,.int .i64 T2,t1,q0,q1,q2,q3,q4,q5,q6,q7,q8,q9,qa,qb,qc,qd,qe,qf,.string C2,t2] 88)
 have Y:=Box.new (w.alloc (.cells #[.int .i64 K,.string N,s0,.int .i64 S0,.int .i64 S1,.int .i64 S2,s1,p0,p1,p2,p3,p4,p5,p6,p7,p8,p9,pa,pb,pc,pd,pe,pf,.string C,s2] 88)) [.int .i64 K2,.string N2,t0,.int .i64 T0,.int .i64 T1,.int .i64 T2,t1,q0,q1,q2,q3,q4,q5,q6,q7,q8,q9,qa,qb,qc,qd,qe,qf,.string C2,t2] 88;rw[World.size_alloc]at Y;have HB:=hid W2;have X:=hid X;have Y:=hid Y;clear W2;rcases hor with ⟨h,rfl⟩|⟨rfl,h,rfl⟩|⟨rfl,rfl,rfl,rfl⟩|⟨rfl,rfl,rfl,h,rfl⟩|⟨rfl,rfl,rfl,rfl,h,rfl⟩|⟨rfl,rfl,rfl,rfl,rfl,h,rfl⟩|⟨rfl,rfl,rfl,rfl,rfl,rfl,rfl,rfl⟩|⟨rfl,rfl,rfl,rfl,rfl,rfl,rfl,rfl,rfl⟩|⟨rfl,rfl,rfl,rfl,rfl,rfl,rfl,rfl,h,rfl⟩|⟨rfl,rfl,rfl,rfl,rfl,rfl,rfl,rfl,rfl,rfl,rfl⟩|⟨rfl,rfl,rfl,rfl,rfl,rfl,rfl,rfl,rfl,rfl,rfl⟩
 all_goals first|(have t1:=i_ne h;clear h)|(have t1:=b_ne h;clear h)|skip
 all_goals as_aux_lemma =>
  go_enter func34,ntmps34
  have x0:=X.out.cl 0 _ rfl;have y0:=Y.out.cl 0 _ rfl;have x1:=X.out.cl 1 _ rfl;have y1:=Y.out.cl 1 _ rfl;have x2:=X.out.cl 2 _ rfl;have y2:=Y.out.cl 2 _ rfl
  go_wp2_with (first|(go_at_call 67;(with_reducible (refine (H2.out _ HB.out).mono ?_));rintro e wc ⟨rfl,hb⟩;have HB2:=hid (two HB.out hb);clear HB;have HB:=HB2;clear HB2;have X1:=hid (X.out.next hb);have Y1:=hid (Y.out.next hb);clear X Y hb;have X:=X1;have Y:=Y1;clear X1 Y1;have x3:=X.out.cl 3 _ rfl;have y3:=Y.out.cl 3 _ rfl;have x4:=X.out.cl 4 _ rfl;have y4:=Y.out.cl 4 _ rfl;have x5:=X.out.cl 5 _ rfl;have y5:=Y.out.cl 5 _ rfl;have x6:=X.out.cl 6 _ rfl;have y6:=Y.out.cl 6 _ rfl)|(go_at_call 68;(with_reducible (refine (H4.out _ HB.out).mono ?_));rintro e wc ⟨rfl,hb⟩;have HB2:=hid (two HB.out hb);clear HB;have HB:=HB2;clear HB2;have X1:=hid (X.out.next hb);have Y1:=hid (Y.out.next hb);clear X Y hb;have X:=X1;have Y:=Y1;clear X1 Y1;have x7:=X.out.cl 7 _ rfl;have y7:=Y.out.cl 7 _ rfl;have x8:=X.out.cl 8 _ rfl;have y8:=Y.out.cl 8 _ rfl;have x9:=X.out.cl 9 _ rfl;have y9:=Y.out.cl 9 _ rfl;have x10:=X.out.cl 10 _ rfl;have y10:=Y.out.cl 10 _ rfl;have x11:=X.out.cl 11 _ rfl;have y11:=Y.out.cl 11 _ rfl;have x12:=X.out.cl 12 _ rfl;have y12:=Y.out.cl 12 _ rfl;have x13:=X.out.cl 13 _ rfl;have y13:=Y.out.cl 13 _ rfl;have x14:=X.out.cl 14 _ rfl;have y14:=Y.out.cl 14 _ rfl;have x15:=X.out.cl 15 _ rfl;have y15:=Y.out.cl 15 _ rfl;have x16:=X.out.cl 16 _ rfl;have y16:=Y.out.cl 16 _ rfl;have x17:=X.out.cl 17 _ rfl;have y17:=Y.out.cl 17 _ rfl;have x18:=X.out.cl 18 _ rfl;have y18:=Y.out.cl 18 _ rfl;have x19:=X.out.cl 19 _ rfl;have y19:=Y.out.cl 19 _ rfl;have x20:=X.out.cl 20 _ rfl;have y20:=Y.out.cl 20 _ rfl;have x21:=X.out.cl 21 _ rfl;have y21:=Y.out.cl 21 _ rfl;have x22:=X.out.cl 22 _ rfl;have y22:=Y.out.cl 22 _ rfl)|(go_at_call 31;(with_reducible (refine (H5.out _ HB.out).mono ?_));rintro e wc ⟨rfl,hb⟩;have HB2:=hid (two HB.out hb);clear HB;have HB:=HB2;clear HB2;have X1:=hid (X.out.next hb);have Y1:=hid (Y.out.next hb);clear X Y hb;have X:=X1;have Y:=Y1;clear X1 Y1;have x23:=X.out.cl 23 _ rfl;have y23:=Y.out.cl 23 _ rfl;have x24:=X.out.cl 24 _ rfl;have y24:=Y.out.cl 24 _ rfl)|(go_at_call 57;(with_reducible (refine (H7.out _ HB.out).mono ?_));rintro e wc ⟨rfl,hb⟩;have HB2:=hid (two HB.out hb);clear HB;have HB:=HB2;clear HB2;have X1:=hid (X.out.next hb);have Y1:=hid (Y.out.next hb);clear X Y hb;have X:=X1;have Y:=Y1;clear X1 Y1))
  go_ret
  exact ⟨rfl,HB.out⟩
theorem ztv (L:Nat) (h:L≠0) (ao bo:Option Addr) (ac bc:Nat) (w:World):Calls Tryz.prog 58 #[.slice ao L ac,.slice bo 0 bc] w (EqTo w false):=by
 have h1:((L:Int) != 0)=true:=by simpa using h
 have h2:((L:Int) == 0)=false:=by simpa using h
 go_enter func58,ntmps58
 go_wp2_with fail
 go_ret
 exact ⟨rfl,Below.refl _ _⟩
theorem ztC (l:List (Str×Str)) (q:Bool) (hq:q=true↔l=[]) (sa sb:Option Addr) (ca cb:Nat) (w:World) (o1 o2:Nat→Prop) (hA:Rep w o1 (.sl 2 (l.map pairD)) (.slice sa l.length ca)) (hB:Rep w o2 (.sl 2 []) (.slice sb 0 cb)) :
 Calls Tryz.prog 58 #[.slice sa l.length ca,.slice sb 0 cb] w (EqTo w q):=by
 by_cases h:l=[]
 ·subst h;obtain rfl:q=true:=hq.2 rfl;exact zqV [] sa sb ca cb w o1 o2 hA hB
 ·obtain rfl:q=false:=zbB hq h;exact ztv l.length (fun e=>h (List.length_eq_zero_iff.1 e)) sa sb ca cb w
theorem zty (L:Nat) (h:L≠0) (ao bo:Option Addr) (ac bc:Nat) (w:World):Calls Tryz.prog 59 #[.slice ao L ac,.slice bo 0 bc] w (EqTo w false):=by
 have h1:((L:Int) != 0)=true:=by simpa using h
 have h2:((L:Int) == 0)=false:=by simpa using h
 go_enter func59,ntmps59
 go_wp2_with fail
 go_ret
 exact ⟨rfl,Below.refl _ _⟩
theorem ztF (l:List (Str×Str×Str)) (q:Bool) (hq:q=true↔l=[]) (sa sb:Option Addr) (ca cb:Nat) (w:World) (o1 o2:Nat→Prop) (hA:Rep w o1 (.sl 3 (l.map aggD)) (.slice sa l.length ca)) (hB:Rep w o2 (.sl 3 []) (.slice sb 0 cb)) :
 Calls Tryz.prog 59 #[.slice sa l.length ca,.slice sb 0 cb] w (EqTo w q):=by
 by_cases h:l=[]
 ·subst h;obtain rfl:q=true:=hq.2 rfl;exact zqX [] sa sb ca cb w o1 o2 hA hB
 ·obtain rfl:q=false:=zbB hq h;exact zty l.length (fun e=>h (List.length_eq_zero_iff.1 e)) sa sb ca cb w
theorem ztx (L:Nat) (h:L≠0) (ao bo:Option Addr) (ac bc:Nat) (w:World):Calls Tryz.prog 60 #[.slice ao L ac,.slice bo 0 bc] w (EqTo w false):=by
 have h1:((L:Int) != 0)=true:=by simpa using h
 have h2:((L:Int) == 0)=false:=by simpa using h
 go_enter func60,ntmps60
 go_wp2_with fail
 go_ret
 exact ⟨rfl,Below.refl _ _⟩
theorem ztE (l:List (Str×Bool)) (q:Bool) (hq:q=true↔l=[]) (sa sb:Option Addr) (ca cb:Nat) (w:World) (o1 o2:Nat→Prop) (hA:Rep w o1 (.sl 2 (l.map ordD)) (.slice sa l.length ca)) (hB:Rep w o2 (.sl 2 []) (.slice sb 0 cb)) :
 Calls Tryz.prog 60 #[.slice sa l.length ca,.slice sb 0 cb] w (EqTo w q):=by
 by_cases h:l=[]
 ·subst h;obtain rfl:q=true:=hq.2 rfl;exact zqW [] sa sb ca cb w o1 o2 hA hB
 ·obtain rfl:q=false:=zbB hq h;exact ztx l.length (fun e=>h (List.length_eq_zero_iff.1 e)) sa sb ca cb w
theorem ztw (L:Nat) (h:L≠0) (ao bo:Option Addr) (ac bc:Nat) (w:World):Calls Tryz.prog 56 #[.slice ao L ac,.slice bo 0 bc,.func (.func 31) #[] #[]] w (EqTo w false):=by
 have h1:((L:Int) != 0)=true:=by simpa using h
 have h2:((L:Int) == 0)=false:=by simpa using h
 go_enter func56,ntmps56
 go_wp2_with fail
 go_ret
 exact ⟨rfl,Below.refl _ _⟩
theorem ztD (l:List Pl) (q:Bool) (hq:q=true↔l=[]) (sa sb:Option Addr) (ca cb:Nat) (w:World) (ok:Nat→Prop) (hA:Rep w ok (.sl 16 (plDs l)) (.slice sa l.length ca)) (hB:Rep w ok (.sl 16 []) (.slice sb 0 cb)) :
 Calls Tryz.prog 56 #[.slice sa l.length ca,.slice sb 0 cb,.func (.func 31) #[] #[]] w (EqTo w q):=by
 by_cases h:l=[]
 ·subst h;obtain rfl:q=true:=hq.2 rfl;exact zmY [] (fun x hx=>by cases hx) sa sb ca cb w ok hA hB
 ·obtain rfl:q=false:=zbB hq h;exact ztw l.length (fun e=>h (List.length_eq_zero_iff.1 e)) sa sb ca cb w
theorem ztd {x y:Pl} (h0:x.k=y.k) (h1:x.nm=y.nm) (h2:x.xs=y.xs) (h3:x.cond=y.cond) (h4:x.names=y.names) (h5:x.exprs=y.exprs) (h6:x.on=y.on) (h7:x.aggs=y.aggs) (h8:x.ord=y.ord) (h9:x.cnt=y.cnt):x=y:=by
 cases x;cases y;simp only[Pl.k,Pl.nm,Pl.xs,Pl.cond,Pl.names,Pl.exprs,Pl.on,Pl.aggs,Pl.ord,Pl.cnt]at h0 h1 h2 h3 h4 h5 h6 h7 h8 h9;subst h0 h1 h2 h3 h4 h5 h6 h7 h8 h9;rfl
structure Flat (y:Pl):Prop where
 xs:y.xs=[]
 cx:y.cond.xs=[]
 names:y.names=[]
 exprs:y.exprs=[]
 on:y.on=[]
 aggs:y.aggs=[]
 ord:y.ord=[]
theorem zm1 (x y:Pl) (hy:Flat y) (q:Bool) (hq:q=true↔x=y) (ps qs:List Value) (w:World) (hA:Row w (fun _=>True) (plD x) ps) (hB:Row w (fun _=>True) (plD y) qs):Calls Tryz.prog 31 #[.agg ps.toArray,.agg qs.toArray] w (EqTo w q):=by
 obtain ⟨a0,ac0,a1,ac1,a2,ac2,a3,ac3,a4,ac4,a5,ac5,a6,ac6,rfl,g1⟩:=zcb hA;obtain ⟨b0,bc0,b1,bc1,b2,bc2,b3,bc3,b4,bc4,b5,bc5,b6,bc6,rfl,g2⟩:=zcb hB;have e0:y.xs.length=0:=by rw[hy.xs];rfl
 have e1:y.cond.xs.length=0:=by rw[hy.cx];rfl
 have e2:y.names.length=0:=by rw[hy.names];rfl
 have e3:y.exprs.length=0:=by rw[hy.exprs];rfl
 have e4:y.on.length=0:=by rw[hy.on];rfl
 have e5:y.aggs.length=0:=by rw[hy.aggs];rfl
 have e6:y.ord.length=0:=by rw[hy.ord];rfl
 unfold PlAt at g2;rw[e0,e1,e2,e3,e4,e5,e6]at g2 ⊢;obtain ⟨r0,t0⟩:=zda (x.xs=[]);obtain ⟨r2,t2⟩:=zda (x.names=y.names);obtain ⟨r4,t4⟩:=zda (x.on=[]);obtain ⟨r5,t5⟩:=zda (x.aggs=[]);obtain ⟨r6,t6⟩:=zda (x.ord=[]);refine zly x.k y.k x.cnt y.cnt x.cond.k x.cond.v.k x.cond.v.n y.cond.k y.cond.v.k y.cond.v.n ⟨x.nm.toArray⟩ ⟨y.nm.toArray⟩ ⟨x.cond.nm.toArray⟩ ⟨x.cond.v.t.toArray⟩ ⟨x.cond.op.toArray⟩ ⟨y.cond.nm.toArray⟩ ⟨y.cond.v.t.toArray⟩ ⟨y.cond.op.toArray⟩ a0 b0 a1 b1 a2 b2 a3 b3 a4 b4 a5 b5 a6 b6 x.xs.length ac0 bc0 x.cond.xs.length ac1 bc1 x.names.length ac2 bc2 x.exprs.length ac3 bc3 x.on.length ac4 bc4 x.aggs.length ac5 bc5 x.ord.length ac6 bc6 q r0 (eqE x.cond y.cond) r2 (eqEs x.exprs []) r4 r5 r6 w (fun W hb=>?_) (fun W hb=>?_) (fun W hb=>?_) (fun W hb=>?_) (fun W hb=>?_) (fun W hb=>?_) (fun W hb=>?_) ?_
 ·have k1:=(PlRep.below g1 hb).args;have k2:=(PlRep.below g2 hb).args;rw[hy.xs]at k2;exact ztD x.xs r0 t0 _ _ _ _ W _ k1 k2
 ·have k1:=(PlRep.below g1 hb).cond;have k2:=(PlRep.below g2 hb).cond;have:=zdY x.cond y.cond a1 b1 ac1 bc1 W _ k1 (by rw[e1];exact k2);rw[e1]at this;exact this
 ·have k1:=(PlRep.below g1 hb).names;have k2:=(PlRep.below g2 hb).names;have:=zol x.names y.names r2 t2 a2 b2 ac2 bc2 W _ _ k1 (by rw[e2];exact k2);rw[e2]at this;exact this
 ·have k1:=(PlRep.below g1 hb).exprs;have k2:=(PlRep.below g2 hb).exprs;rw[hy.exprs]at k2;exact zj2 x.exprs [] (fun a _=>zdY a) a3 b3 ac3 bc3 W _ k1 k2
 ·have k1:=(PlRep.below g1 hb).on;have k2:=(PlRep.below g2 hb).on;rw[hy.on]at k2;exact ztC x.on r4 t4 _ _ _ _ W _ _ k1 k2
 ·have k1:=(PlRep.below g1 hb).aggs;have k2:=(PlRep.below g2 hb).aggs;rw[hy.aggs]at k2;exact ztF x.aggs r5 t5 _ _ _ _ W _ _ k1 k2
 ·have k1:=(PlRep.below g1 hb).ord;have k2:=(PlRep.below g2 hb).ord;rw[hy.ord]at k2;exact ztE x.ord r6 t6 _ _ _ _ W _ _ k1 k2
 have hn:∀ {p:Prop},(x=y→p)→¬ p→q=false:=fun hp hnp=>zbB hq fun e=>hnp (hp e)
 have x1:=zet x.cond y.cond;have x3:=zdI x.exprs [];by_cases h0:x.k=y.k
 ·refine .inr ?_;by_cases h1:(⟨x.nm.toArray⟩:ByteArray)=⟨y.nm.toArray⟩
  ·refine .inr ?_;by_cases h2:x.xs=[]
   ·refine .inr ?_;by_cases h3:x.cond=y.cond
    ·refine .inr ?_;by_cases h4:x.names=y.names
     ·refine .inr ?_;by_cases h5:x.exprs=[]
      ·refine .inr ?_;by_cases h6:x.on=[]
       ·refine .inr ?_;by_cases h7:x.aggs=[]
        ·refine .inr ?_;by_cases h8:x.ord=[]
         ·refine .inr ?_;by_cases h9:x.cnt=y.cnt
          ·refine .inr ?_;exact ⟨h0,h1,t0.2 h2,x1.2 h3,t2.2 h4,x3.2 h5,t4.2 h6,t5.2 h7,t6.2 h8,h9,hq.2 (ztd h0 (zeg.1 h1) (by rw[h2,hy.xs]) h3 h4 (by rw[h5,hy.exprs]) (by rw[h6,hy.on]) (by rw[h7,hy.aggs]) (by rw[h8,hy.ord]) h9)⟩
          ·exact .inl ⟨h0,h1,t0.2 h2,x1.2 h3,t2.2 h4,x3.2 h5,t4.2 h6,t5.2 h7,t6.2 h8,h9,hn (fun e=>by rw[e]) h9⟩
         ·exact .inl ⟨h0,h1,t0.2 h2,x1.2 h3,t2.2 h4,x3.2 h5,t4.2 h6,t5.2 h7,zbB t6 h8,hn (fun e=>by rw[e,hy.ord]) h8⟩
        ·exact .inl ⟨h0,h1,t0.2 h2,x1.2 h3,t2.2 h4,x3.2 h5,t4.2 h6,zbB t5 h7,hn (fun e=>by rw[e,hy.aggs]) h7⟩
       ·exact .inl ⟨h0,h1,t0.2 h2,x1.2 h3,t2.2 h4,x3.2 h5,zbB t4 h6,hn (fun e=>by rw[e,hy.on]) h6⟩
      ·exact .inl ⟨h0,h1,t0.2 h2,x1.2 h3,t2.2 h4,zbB x3 h5,hn (fun e=>by rw[e,hy.exprs]) h5⟩
     ·exact .inl ⟨h0,h1,t0.2 h2,x1.2 h3,zbB t2 h4,hn (fun e=>by rw[e]) h4⟩
    ·exact .inl ⟨h0,h1,t0.2 h2,zbB x1 h3,hn (fun e=>by rw[e]) h3⟩
   ·exact .inl ⟨h0,h1,zbB t0 h2,hn (fun e=>by rw[e,hy.xs]) h2⟩
  ·exact .inl ⟨h0,h1,hn (fun e=>by rw[e]) h1⟩
 ·exact .inl ⟨h0,hn (fun e=>by rw[e]) h0⟩
theorem zpk (l1 l2:List (Str×Int)) (q:Bool) (hq:q=true↔l1=l2) (sa sb:Option Addr) (ca cb:Nat) (w:World) (o1 o2:Nat→Prop) (hA:Rep w o1 (.sl 2 (l1.map colD)) (.slice sa l1.length ca)) (hB:Rep w o2 (.sl 2 (l2.map colD)) (.slice sb l2.length cb)) :
 Calls Tryz.prog 67 #[.slice sa l1.length ca,.slice sb l2.length cb] w (EqTo w q):=by
 have HC:Hid (Calls Tryz.prog 95 #[.slice sa l1.length ca,.slice sb l2.length cb] w (EqTo w q)):=ztA l1 l2 q hq sa sb ca cb w o1 o2 hA hB;obtain ⟨n,hn⟩:∃ n,l1.length=n:=⟨_,rfl⟩;obtain ⟨m,hm⟩:∃ n,l2.length=n:=⟨_,rfl⟩;rw[hn,hm]at HC ⊢;clear hA hB hn hm hq;go_enter func67,ntmps67
 go_wp2_with (go_at_call 95;(with_reducible (refine HC.out.mono ?_));rintro e wc ⟨rfl,hb⟩)
 go_ret
 exact ⟨rfl,hb⟩
theorem ztG {x y:Df} (h0:x.k=y.k) (h1:x.nm=y.nm) (h2:x.sch=y.sch) (h3:x.sc.k=y.sc.k) (h4:x.sc.f=y.sc.f) (h5:x.sc.l=y.sc.l) (h6:x.ins=y.ins) (h7:x.plan=y.plan) (h8:x.cron=y.cron) (h9:x.mks=y.mks):x=y:=by
 rcases x with ⟨_,_,_,⟨_,_,_⟩,_,_,_,_⟩
 rcases y with ⟨_,_,_,⟨_,_,_⟩,_,_,_,_⟩
 simp only at h0 h1 h2 h3 h4 h5 h6 h7 h8 h9;subst h0 h1 h2 h3 h4 h5 h6 h7 h8 h9;rfl
theorem zqq (x d:Df) (hd:Flat d.plan):DqOk x d:=fun b hb cs ds w o1 o2 hA hB=>by
 obtain ⟨s0,s1,s2,ps,rfl,hA2⟩:=zi8 hA;obtain ⟨t0,t1,t2,qs,rfl,hB2⟩:=zi8 hB;obtain ⟨p0,p1,p2,p3,p4,p5,p6,p7,p8,p9,pa,pb,pc,pd,pe,pf,rfl⟩:=ziS hA2.plan.len16;obtain ⟨q0,q1,q2,q3,q4,q5,q6,q7,q8,q9,qa,qb,qc,qd,qe,qf,rfl⟩:=ziS hB2.plan.len16;obtain ⟨r2,u2⟩:=zda (x.sch=d.sch);obtain ⟨r4,u4⟩:=zda (x.ins=d.ins);obtain ⟨r5,u5⟩:=zda (x.plan=d.plan);obtain ⟨r7,u7⟩:=zda (x.mks=d.mks);refine zos x.k d.k x.sc.k x.sc.f x.sc.l d.sc.k d.sc.f d.sc.l ⟨x.nm.toArray⟩ ⟨d.nm.toArray⟩ ⟨x.cron.toArray⟩ ⟨d.cron.toArray⟩ s0 s1 s2 t0 t1 t2 p0 p1 p2 p3 p4 p5 p6 p7 p8 p9 pa pb pc pd pe pf q0 q1 q2 q3 q4 q5 q6 q7 q8 q9 qa qb qc qd qe qf b r2 r4 r5 r7 w (fun W hb=>?_) (fun W hb=>?_) (fun W hb=>?_) (fun W hb=>?_) ?_
 ·have ha:=(hA2.below hb).sch;have hc:=(hB2.below hb).sch;obtain ⟨a1,c1,rfl,_⟩:=ha.len;obtain ⟨a2,c2,rfl,_⟩:=hc.len;rw[yC]at ha hc ⊢;rw[yC];exact zpk x.sch d.sch r2 u2 _ _ _ _ W _ _ ha hc
 ·have ha:=(hA2.below hb).ins;have hc:=(hB2.below hb).ins;obtain ⟨a1,c1,rfl,_⟩:=ha.len;obtain ⟨a2,c2,rfl,_⟩:=hc.len;rw[yC]at ha hc ⊢;rw[yC];exact ztz x.ins d.ins r4 u4 _ _ _ _ W _ _ ha hc
 ·have ha:=(hA2.below hb).plan;have hc:=(hB2.below hb).plan;exact zm1 x.plan d.plan hd r5 u5 _ _ W (ha.weak (ok':=fun _=>True) fun _ _ _=>trivial) (hc.weak (ok':=fun _=>True) fun _ _ _=>trivial)
 ·have ha:=(hA2.below hb).mks;have hc:=(hB2.below hb).mks;obtain ⟨a1,c1,rfl,_⟩:=ha.len;obtain ⟨a2,c2,rfl,_⟩:=hc.len;rw[yC]at ha hc ⊢;rw[yC];exact zol x.mks d.mks r7 u7 _ _ _ _ W _ _ ha hc
 have hn:∀ {p:Prop},(x=d→p)→¬ p→b=false:=fun hp hnp=>zbB hb fun e=>hnp (hp e)
 by_cases h0:x.k=d.k
 ·refine .inr ?_;by_cases h1:(⟨x.nm.toArray⟩:ByteArray)=⟨d.nm.toArray⟩
  ·refine .inr ?_;by_cases h2:x.sch=d.sch
   ·refine .inr ?_;by_cases h3:x.sc.k=d.sc.k
    ·refine .inr ?_;by_cases h4:x.sc.f=d.sc.f
     ·refine .inr ?_;by_cases h5:x.sc.l=d.sc.l
      ·refine .inr ?_;by_cases h6:x.ins=d.ins
       ·refine .inr ?_;by_cases h7:x.plan=d.plan
        ·refine .inr ?_;by_cases h8:(⟨x.cron.toArray⟩:ByteArray)=⟨d.cron.toArray⟩
         ·refine .inr ?_;by_cases h9:x.mks=d.mks
          ·refine .inr ?_;exact ⟨h0,h1,u2.2 h2,h3,h4,h5,u4.2 h6,u5.2 h7,h8,u7.2 h9,hb.2 (ztG h0 (zeg.1 h1) h2 h3 h4 h5 h6 h7 (zeg.1 h8) h9)⟩
          ·exact .inl ⟨h0,h1,u2.2 h2,h3,h4,h5,u4.2 h6,u5.2 h7,h8,zbB u7 h9,hn (fun e=>by rw[e]) h9⟩
         ·exact .inl ⟨h0,h1,u2.2 h2,h3,h4,h5,u4.2 h6,u5.2 h7,h8,hn (fun e=>by rw[e]) h8⟩
        ·exact .inl ⟨h0,h1,u2.2 h2,h3,h4,h5,u4.2 h6,zbB u5 h7,hn (fun e=>by rw[e]) h7⟩
       ·exact .inl ⟨h0,h1,u2.2 h2,h3,h4,h5,zbB u4 h6,hn (fun e=>by rw[e]) h6⟩
      ·exact .inl ⟨h0,h1,u2.2 h2,h3,h4,h5,hn (fun e=>by rw[e]) h5⟩
     ·exact .inl ⟨h0,h1,u2.2 h2,h3,h4,hn (fun e=>by rw[e]) h4⟩
    ·exact .inl ⟨h0,h1,u2.2 h2,h3,hn (fun e=>by rw[e]) h3⟩
   ·exact .inl ⟨h0,h1,zbB u2 h2,hn (fun e=>by rw[e]) h2⟩
  ·exact .inl ⟨h0,h1,hn (fun e=>by rw[e]) h1⟩
 ·exact .inl ⟨h0,hn (fun e=>by rw[e]) h0⟩
