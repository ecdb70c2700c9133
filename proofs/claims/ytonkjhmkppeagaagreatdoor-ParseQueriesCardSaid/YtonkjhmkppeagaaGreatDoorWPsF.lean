/- Walks: what is tightest: words, signs, brackets, calls. Walks: what is tightest: names, calls. -/
import Derived.Test.YtonkjhmkppeagaaGreatDoorWPsE
set_option maxRecDepth 100000
set_option maxHeartbeats 6400000
set_option linter.unusedVariables false
set_option linter.unusedSimpArgs false
namespace Go.Proofs.YtonkjhmkppeagaaGreatDoor.Pz
open Go.Proofs.Tryz
open Go.Lib (hid)
open Go.RowKit Go Go.Sort Ba Lx
theorem ziz (D:Dp) (B d:Nat) (w:World) (s:Ps) (hp:PAt w B d s) (hn2:(peekP s).k≠2) (hn3:(peekP s).k≠3) (hx:isP s sNull=true):Calls Tryz.prog 180 #[.pointer (some ⟨B,0,none⟩)] w (ExTo w B d (prL D s).1 (prL D s).2):=by
 have hlt:=hp.lt;have bw:Below w.heap.size w ((w.alloc (.cells #[.pointer (some ⟨B,0,none⟩)] 112)).alloc (.cells zzA 27)):=((Below.refl _ w).alloc (yG _) _).alloc (by simp) _;have C0:=(Box.new w [.pointer (some ⟨B,0,none⟩)] 112).alloc (.cells zzA 27);have R0:Box ((w.alloc (.cells #[.pointer (some ⟨B,0,none⟩)] 112)).alloc (.cells zzA 27)) (w.heap.size+1) zzL:=by
  have:=Box.new (w.alloc (.cells #[.pointer (some ⟨B,0,none⟩)] 112)) zzL 27;rw[World.size_alloc]at this;exact this
 have hz0:w.heap.size+2≤((w.alloc (.cells #[.pointer (some ⟨B,0,none⟩)] 112)).alloc (.cells zzA 27)).heap.size:=by simp
 obtain ⟨t,ht⟩:∃ t,peekP s=t:=⟨_,rfl⟩;obtain ⟨Y,hY⟩:∃ Y:ByteArray,(⟨t.t.toArray⟩:ByteArray)=Y:=⟨_,rfl⟩;have HPK:=hid (fun W hW=>zb0 s t Y ht hY W B d hW);have hbd:0≤t.n∧t.n≤9223372036854775807:=by rw[← ht];exact zc1 (s:=s) hp.2.2.2.1
 rw[ht]at hn2 hn3;obtain ⟨n0,hn0⟩:∃ n0,t.n=n0:=⟨_,rfl⟩;obtain ⟨kk,hkk⟩:∃ kk,t.k=kk:=⟨_,rfl⟩;rw[hn0]at hbd HPK;rw[hkk]at HPK;have hk2:(kk == 2)=false:=by rw[← hkk];simpa using hn2
 have hk3:(kk == 3)=false:=by rw[← hkk];simpa using hn3
 have HE:Hid (prL D s=((zam zV),advP s)):=by
  show primP _ _ s=_
  unfold primP;rw[if_neg (by rw[ht];exact hn2),if_neg (by rw[ht];exact hn3),if_pos hx]
 have HCO:Hid (∀ W,Calls Tryz.prog 26 #[.agg #[.int .i64 0,.int .i64 0,.string ⟨#[]⟩]] W (ze2 W (fun _=>False) (zam zV))):=fun W=>zd0 0 0 [] W _
 have HM:=hid (fun W hW=>zbO s sNull hx W B d hW);have HP0:=hid (hp.below bw);clear ht hY hkk hn0 hn2 hn3 hx hp;go_enter func180,ntmps180
 go_wp2_with fail
 generalize ((w.alloc (.cells #[.pointer (some ⟨B,0,none⟩)] 112)).alloc (.cells zzA 27))=W0 at *
 have c0:=C0.cl 0 _ rfl;refine (HPK.out _ HP0.out).mono ?_;rintro e w1 ⟨rfl,hb1⟩;have bw2:=hb1.alloc hb1.size (.cells #[.int .i64 kk,.string Y,.int .i64 n0,.int .i64 (t.p:Int)] 169);have X2:=Box.new w1 [.int .i64 kk,.string Y,.int .i64 n0,.int .i64 (t.p:Int)] 169;have C2:=(C0.next hb1).alloc (.cells #[.int .i64 kk,.string Y,.int .i64 n0,.int .i64 (t.p:Int)] 169);have R2:=(R0.next hb1).alloc (.cells #[.int .i64 kk,.string Y,.int .i64 n0,.int .i64 (t.p:Int)] 169);have HP2:=hid (HP0.out.below bw2);have KW2:=hid ((Kept.of_below (S:=fun b=>b=B) bw).behind bw2);have hz2:=bw2.size;have hz1:=hb1.size;have hRT:w.heap.size+1<w1.heap.size:=by omega
 clear C0 R0 hb1 bw c0 bw2;obtain ⟨T,hT⟩:∃ T,w1.heap.size=T:=⟨_,rfl⟩;rw[hT]at X2 hRT;have hTlt:=X2.lt;obtain ⟨R,hR⟩:∃ R,w.heap.size+1=R:=⟨_,rfl⟩;go_upto_region 8 with (fail)
 generalize w1.alloc (.cells #[.int .i64 kk,.string Y,.int .i64 n0,.int .i64 (t.p:Int)] 169)=W2 at *
 try rw[hT]
 try rw[hR]
 have hRR:w.heap.size+1≤R:=by omega
 rw[hR]at R2 hRT;clear hT hR;have c2:=C2.cl 0 _ rfl;obtain ⟨x0,x1,x2,x3⟩:=X2.four';go_wp2_with (first|(go_at_call 88;refine (HM.out _ HP2.out).mono ?_;rintro e w3 ⟨rfl,hK3,hP3⟩)|(go_at_call 154;refine (Va.null_any _).mono ?_;rintro e w5 ⟨rfl,hb5⟩)|(go_at_call 26;refine (HCO.out _).mono ?_;rintro e w6 ⟨ao,cp,rfl,hA6,hb6⟩;have R6:=((R2.kept hK3 (by show ¬ R=B;omega)).next hb5).next hb6;obtain ⟨z0,z1,z2,z3,z4,z5,z6⟩:=(R6).seven;obtain ⟨f0,f1,f2,f3,f4,f5,f6⟩:=(R6).free7))
 have SP:=(R6).setN (vs:=[.int .i64 (zam zV).k,.string ⟨(zam zV).nm.toArray⟩,.int .i64 (zam zV).v.k,.int .i64 (zam zV).v.n,.string ⟨(zam zV).v.t.toArray⟩,.string ⟨(zam zV).op.toArray⟩,.slice ao (zam zV).xs.length cp]) rfl;have K9:=Kept.setN (S:=fun b=>b=R) (B:=R) (.inl rfl) [.int .i64 (zam zV).k,.string ⟨(zam zV).nm.toArray⟩,.int .i64 (zam zV).v.k,.int .i64 (zam zV).v.n,.string ⟨(zam zV).v.t.toArray⟩,.string ⟨(zam zV).op.toArray⟩,.slice ao (zam zV).xs.length cp] 0 (Kept.refl _ w6);dsimp only[setN]at SP K9;obtain ⟨p0,p1,p2,p3,p4,p5,p6⟩:=SP.seven;refine bodyPost_ret (by simp[results,results180,go_sem,p0,p1,p2,p3,p4,p5,p6];try rfl) rfl ?_;rw[HE.out]
 exact ⟨_,_,rfl,(hA6).both K9 (fun b _ hb e=>by have e':b=R:=e;rcases hb with hb|hb;exact hb.elim;have:=R2.lt;have:=hK3.size;have:=hb5.size;omega) (fun b _ hb=>by rcases hb with hb|hb;exact hb.elim;have:=R2.lt;have:=hK3.size;have:=hb5.size;omega),(((KW2.out.trans hK3).behind hb5).behind hb6).then K9 (fun k hk e=>by have e':k=R:=e;omega),((hP3.below hb5).below hb6).apart K9 (by omega)⟩
theorem zjE (D:Dp) (B d:Nat) (hd:DpPar D.dparen B d) (w:World) (s:Ps) (hp:PAt w B d s) (hn2:(peekP s).k≠2) (hn3:(peekP s).k≠3) (hx:isP s sNull=false) (hy:isP s [40]=true):Calls Tryz.prog 180 #[.pointer (some ⟨B,0,none⟩)] w (ExTo w B d (prL D s).1 (prL D s).2):=by
 have hlt:=hp.lt;have bw:Below w.heap.size w ((w.alloc (.cells #[.pointer (some ⟨B,0,none⟩)] 112)).alloc (.cells zzA 27)):=((Below.refl _ w).alloc (yG _) _).alloc (by simp) _;have C0:=(Box.new w [.pointer (some ⟨B,0,none⟩)] 112).alloc (.cells zzA 27);have R0:Box ((w.alloc (.cells #[.pointer (some ⟨B,0,none⟩)] 112)).alloc (.cells zzA 27)) (w.heap.size+1) zzL:=by
  have:=Box.new (w.alloc (.cells #[.pointer (some ⟨B,0,none⟩)] 112)) zzL 27;rw[World.size_alloc]at this;exact this
 have hz0:w.heap.size+2≤((w.alloc (.cells #[.pointer (some ⟨B,0,none⟩)] 112)).alloc (.cells zzA 27)).heap.size:=by simp
 obtain ⟨t,ht⟩:∃ t,peekP s=t:=⟨_,rfl⟩;obtain ⟨Y,hY⟩:∃ Y:ByteArray,(⟨t.t.toArray⟩:ByteArray)=Y:=⟨_,rfl⟩;have HPK:=hid (fun W hW=>zb0 s t Y ht hY W B d hW);have hbd:0≤t.n∧t.n≤9223372036854775807:=by rw[← ht];exact zc1 (s:=s) hp.2.2.2.1
 rw[ht]at hn2 hn3;obtain ⟨n0,hn0⟩:∃ n0,t.n=n0:=⟨_,rfl⟩;obtain ⟨kk,hkk⟩:∃ kk,t.k=kk:=⟨_,rfl⟩;rw[hn0]at hbd HPK;rw[hkk]at HPK;have hk2:(kk == 2)=false:=by rw[← hkk];simpa using hn2
 have hk3:(kk == 3)=false:=by rw[← hkk];simpa using hn3
 have HE:Hid (prL D s=D.dparen s):=by
  show primP _ _ s=_
  unfold primP;rw[if_neg (by rw[ht];exact hn2),if_neg (by rw[ht];exact hn3),if_neg (by rw[hx];decide),if_pos hy]
 have HM:=hid (fun W hW=>zbg s sNull hx W B d hW);have HI:=hid (fun W hW=>zbP s [40] true hy W B d hW);have HD:=hid hd;have HP0:=hid (hp.below bw);clear ht hY hkk hn0 hn2 hn3 hx hy hp hd;go_enter func180,ntmps180
 go_wp2_with fail
 generalize ((w.alloc (.cells #[.pointer (some ⟨B,0,none⟩)] 112)).alloc (.cells zzA 27))=W0 at *
 have c0:=C0.cl 0 _ rfl;refine (HPK.out _ HP0.out).mono ?_;rintro e w1 ⟨rfl,hb1⟩;have bw2:=hb1.alloc hb1.size (.cells #[.int .i64 kk,.string Y,.int .i64 n0,.int .i64 (t.p:Int)] 169);have X2:=Box.new w1 [.int .i64 kk,.string Y,.int .i64 n0,.int .i64 (t.p:Int)] 169;have C2:=(C0.next hb1).alloc (.cells #[.int .i64 kk,.string Y,.int .i64 n0,.int .i64 (t.p:Int)] 169);have R2:=(R0.next hb1).alloc (.cells #[.int .i64 kk,.string Y,.int .i64 n0,.int .i64 (t.p:Int)] 169);have HP2:=hid (HP0.out.below bw2);have KW2:=hid ((Kept.of_below (S:=fun b=>b=B) bw).behind bw2);have hz2:=bw2.size;have hz1:=hb1.size;have hRT:w.heap.size+1<w1.heap.size:=by omega
 clear C0 R0 hb1 bw c0 bw2;obtain ⟨T,hT⟩:∃ T,w1.heap.size=T:=⟨_,rfl⟩;rw[hT]at X2 hRT;have hTlt:=X2.lt;obtain ⟨R,hR⟩:∃ R,w.heap.size+1=R:=⟨_,rfl⟩;go_upto_region 8 with (fail)
 generalize w1.alloc (.cells #[.int .i64 kk,.string Y,.int .i64 n0,.int .i64 (t.p:Int)] 169)=W2 at *
 try rw[hT]
 try rw[hR]
 have hRR:w.heap.size+1≤R:=by omega
 rw[hR]at R2 hRT;clear hT hR;have c2:=C2.cl 0 _ rfl;obtain ⟨x0,x1,x2,x3⟩:=X2.four';have hCB:¬ w.heap.size=B:=by omega
 go_wp2_with (first|(go_at_call 88;refine (HM.out _ HP2.out).mono ?_;rintro e w3 ⟨rfl,hK3,hP3⟩;have C3:=C2.kept hK3 hCB;have c3:=C3.cl 0 _ rfl)|(go_at_call 107;refine (HI.out _ hP3).mono ?_;rintro e w4 ⟨rfl,hb4⟩;have C4:=C3.next hb4;have c4:=C4.cl 0 _ rfl;have P4:=hP3.below hb4)|(go_at_call 79;refine (HD.out _ _ _ P4 C4 hCB).mono ?_;rintro e w5 ⟨ao,cp,rfl,hA,hK5,hP5⟩;have R6:=((R2.kept hK3 (by show ¬ R=B;omega)).next hb4).kept hK5 (by show ¬ R=B;omega);obtain ⟨z0,z1,z2,z3,z4,z5,z6⟩:=(R6).seven;obtain ⟨f0,f1,f2,f3,f4,f5,f6⟩:=(R6).free7))
 have SP:=(R6).setN (vs:=[.int .i64 (D.dparen s).1.k,.string ⟨(D.dparen s).1.nm.toArray⟩,.int .i64 (D.dparen s).1.v.k,.int .i64 (D.dparen s).1.v.n,.string ⟨(D.dparen s).1.v.t.toArray⟩,.string ⟨(D.dparen s).1.op.toArray⟩,.slice ao (D.dparen s).1.xs.length cp]) rfl;have K9:=Kept.setN (S:=fun b=>b=R) (B:=R) (.inl rfl) [.int .i64 (D.dparen s).1.k,.string ⟨(D.dparen s).1.nm.toArray⟩,.int .i64 (D.dparen s).1.v.k,.int .i64 (D.dparen s).1.v.n,.string ⟨(D.dparen s).1.v.t.toArray⟩,.string ⟨(D.dparen s).1.op.toArray⟩,.slice ao (D.dparen s).1.xs.length cp] 0 (Kept.refl _ w5);dsimp only[setN]at SP K9;obtain ⟨p0,p1,p2,p3,p4,p5,p6⟩:=SP.seven;refine bodyPost_ret (by simp[results,results180,go_sem,p0,p1,p2,p3,p4,p5,p6];try rfl) rfl ?_;rw[HE.out]
 exact ⟨_,_,rfl,(hA).both K9 (fun b _ hb e=>by have e':b=R:=e;have:=R2.lt;have:=hK3.size;have:=hb4.size;omega) (fun b _ hb=>by have:=R2.lt;have:=hK3.size;have:=hb4.size;omega),(((KW2.out.trans hK3).behind hb4).trans hK5).then K9 (fun k hk e=>by have e':k=R:=e;omega),(hP5).apart K9 (by omega)⟩
theorem zfw (D:Dp) (B d:Nat) (w:World) (s:Ps) (hp:PAt w B d s) (hn2:(peekP s).k≠2) (hn3:(peekP s).k≠3) (hx:isP s sNull=false) (hy:isP s [40]=false) (hk1:(peekP s).k≠1):Calls Tryz.prog 180 #[.pointer (some ⟨B,0,none⟩)] w (ExTo w B d (prL D s).1 (prL D s).2):=by
 have hlt:=hp.lt;have bw:Below w.heap.size w ((w.alloc (.cells #[.pointer (some ⟨B,0,none⟩)] 112)).alloc (.cells zzA 27)):=((Below.refl _ w).alloc (yG _) _).alloc (by simp) _;have C0:=(Box.new w [.pointer (some ⟨B,0,none⟩)] 112).alloc (.cells zzA 27);have R0:Box ((w.alloc (.cells #[.pointer (some ⟨B,0,none⟩)] 112)).alloc (.cells zzA 27)) (w.heap.size+1) zzL:=by
  have:=Box.new (w.alloc (.cells #[.pointer (some ⟨B,0,none⟩)] 112)) zzL 27;rw[World.size_alloc]at this;exact this
 have hz0:w.heap.size+2≤((w.alloc (.cells #[.pointer (some ⟨B,0,none⟩)] 112)).alloc (.cells zzA 27)).heap.size:=by simp
 obtain ⟨t,ht⟩:∃ t,peekP s=t:=⟨_,rfl⟩;obtain ⟨Y,hY⟩:∃ Y:ByteArray,(⟨t.t.toArray⟩:ByteArray)=Y:=⟨_,rfl⟩;have HPK:=hid (fun W hW=>zb0 s t Y ht hY W B d hW);have hbd:0≤t.n∧t.n≤9223372036854775807:=by rw[← ht];exact zc1 (s:=s) hp.2.2.2.1
 rw[ht]at hn2 hn3;obtain ⟨n0,hn0⟩:∃ n0,t.n=n0:=⟨_,rfl⟩;obtain ⟨kk,hkk⟩:∃ kk,t.k=kk:=⟨_,rfl⟩;rw[hn0]at hbd HPK;rw[hkk]at HPK;have hk2:(kk == 2)=false:=by rw[← hkk];simpa using hn2
 have hk3:(kk == 3)=false:=by rw[← hkk];simpa using hn3
 rw[ht]at hk1;have HE:Hid (prL D s=(zEx,failP s 51)):=by
  show primP _ _ s=_
  unfold primP;rw[if_neg (by rw[ht];exact hn2),if_neg (by rw[ht];exact hn3),if_neg (by rw[hx];decide),if_neg (by rw[hy];decide),if_pos (by rw[ht];exact .inl hk1)]
 have HM:=hid (fun W hW=>zbg s sNull hx W B d hW);have HI:=hid (fun W hW=>zbP s [40] false hy W B d hW);have HP0:=hid (hp.below bw);have hne:(kk != 1)=true:=by rw[← hkk];simpa using hk1
 clear ht hY hkk hn0 hn2 hn3 hx hy hp hk1;go_enter func180,ntmps180
 go_wp2_with fail
 generalize ((w.alloc (.cells #[.pointer (some ⟨B,0,none⟩)] 112)).alloc (.cells zzA 27))=W0 at *
 have c0:=C0.cl 0 _ rfl;refine (HPK.out _ HP0.out).mono ?_;rintro e w1 ⟨rfl,hb1⟩;have bw2:=hb1.alloc hb1.size (.cells #[.int .i64 kk,.string Y,.int .i64 n0,.int .i64 (t.p:Int)] 169);have X2:=Box.new w1 [.int .i64 kk,.string Y,.int .i64 n0,.int .i64 (t.p:Int)] 169;have C2:=(C0.next hb1).alloc (.cells #[.int .i64 kk,.string Y,.int .i64 n0,.int .i64 (t.p:Int)] 169);have R2:=(R0.next hb1).alloc (.cells #[.int .i64 kk,.string Y,.int .i64 n0,.int .i64 (t.p:Int)] 169);have HP2:=hid (HP0.out.below bw2);have KW2:=hid ((Kept.of_below (S:=fun b=>b=B) bw).behind bw2);have hz2:=bw2.size;have hz1:=hb1.size;have hRT:w.heap.size+1<w1.heap.size:=by omega
 clear C0 R0 hb1 bw c0 bw2;obtain ⟨T,hT⟩:∃ T,w1.heap.size=T:=⟨_,rfl⟩;rw[hT]at X2 hRT;have hTlt:=X2.lt;obtain ⟨R,hR⟩:∃ R,w.heap.size+1=R:=⟨_,rfl⟩;go_upto_region 8 with (fail)
 generalize w1.alloc (.cells #[.int .i64 kk,.string Y,.int .i64 n0,.int .i64 (t.p:Int)] 169)=W2 at *
 try rw[hT]
 try rw[hR]
 have hRR:w.heap.size+1≤R:=by omega
 rw[hR]at R2 hRT;clear hT hR;have c2:=C2.cl 0 _ rfl;obtain ⟨x0,x1,x2,x3⟩:=X2.four';have hCB:¬ w.heap.size=B:=by omega
 have hTB:¬ T=B:=by omega
 go_wp2_with (first|(go_at_call 88;refine (HM.out _ HP2.out).mono ?_;rintro e w3 ⟨rfl,hK3,hP3⟩;have C3:=C2.kept hK3 hCB;have c3:=C3.cl 0 _ rfl)|(go_at_call 107;refine (HI.out _ hP3).mono ?_;rintro e w4 ⟨rfl,hb4⟩;have C4:=C3.next hb4;have c4:=C4.cl 0 _ rfl;have P4:=hP3.below hb4;have X4:=(X2.kept hK3 hTB).next hb4;obtain ⟨y0,y1,y2,y3⟩:=X4.four')|(go_at_call 78;refine (zcc s 51 _ B d P4).mono ?_;rintro e w5 ⟨rfl,hK5,hP5⟩;have R6:=((R2.kept hK3 (by show ¬ R=B;omega)).next hb4).kept hK5 (by show ¬ R=B;omega);obtain ⟨z0,z1,z2,z3,z4,z5,z6⟩:=(R6).seven;obtain ⟨f0,f1,f2,f3,f4,f5,f6⟩:=(R6).free7))
 have SP:=(R6).setN (vs:=zzL) rfl;have K9:=Kept.setN (S:=fun b=>b=R) (B:=R) (.inl rfl) zzL 0 (Kept.refl _ w5);dsimp only[setN]at SP K9;obtain ⟨p0,p1,p2,p3,p4,p5,p6⟩:=SP.seven;refine bodyPost_ret (by simp[results,results180,go_sem,p0,p1,p2,p3,p4,p5,p6];try rfl) rfl ?_;rw[HE.out];exact ⟨_,_,rfl,((zaN w5 (fun b=>w5.heap.size≤b))).both K9 (fun b _ hb e=>by have e':b=R:=e;have:=R6.lt;omega) (fun b _ hb=>by have:=R6.lt;omega),(((KW2.out.trans hK3).behind hb4).trans hK5).then K9 (fun k hk e=>by have e':k=R:=e;omega),(hP5).apart K9 (by omega)⟩
theorem zf8 (D:Dp) (B d:Nat) (w:World) (s:Ps) (hp:PAt w B d s) (hn2:(peekP s).k≠2) (hn3:(peekP s).k≠3) (hx:isP s sNull=false) (hy:isP s [40]=false) (hk1:(peekP s).k=1) (hw:(peekP s).t=sAnd):Calls Tryz.prog 180 #[.pointer (some ⟨B,0,none⟩)] w (ExTo w B d (prL D s).1 (prL D s).2):=by
 have hlt:=hp.lt;have bw:Below w.heap.size w ((w.alloc (.cells #[.pointer (some ⟨B,0,none⟩)] 112)).alloc (.cells zzA 27)):=((Below.refl _ w).alloc (yG _) _).alloc (by simp) _;have C0:=(Box.new w [.pointer (some ⟨B,0,none⟩)] 112).alloc (.cells zzA 27);have R0:Box ((w.alloc (.cells #[.pointer (some ⟨B,0,none⟩)] 112)).alloc (.cells zzA 27)) (w.heap.size+1) zzL:=by
  have:=Box.new (w.alloc (.cells #[.pointer (some ⟨B,0,none⟩)] 112)) zzL 27;rw[World.size_alloc]at this;exact this
 have hz0:w.heap.size+2≤((w.alloc (.cells #[.pointer (some ⟨B,0,none⟩)] 112)).alloc (.cells zzA 27)).heap.size:=by simp
 obtain ⟨t,ht⟩:∃ t,peekP s=t:=⟨_,rfl⟩;obtain ⟨Y,hY⟩:∃ Y:ByteArray,(⟨t.t.toArray⟩:ByteArray)=Y:=⟨_,rfl⟩;have HPK:=hid (fun W hW=>zb0 s t Y ht hY W B d hW);have hbd:0≤t.n∧t.n≤9223372036854775807:=by rw[← ht];exact zc1 (s:=s) hp.2.2.2.1
 rw[ht]at hn2 hn3;obtain ⟨n0,hn0⟩:∃ n0,t.n=n0:=⟨_,rfl⟩;obtain ⟨kk,hkk⟩:∃ kk,t.k=kk:=⟨_,rfl⟩;rw[hn0]at hbd HPK;rw[hkk]at HPK;have hk2:(kk == 2)=false:=by rw[← hkk];simpa using hn2
 have hk3:(kk == 3)=false:=by rw[← hkk];simpa using hn3
 rw[ht]at hk1 hw;have HE:Hid (prL D s=(zEx,failP s 51)):=by
  show primP _ _ s=_
  unfold primP;rw[if_neg (by rw[ht];exact hn2),if_neg (by rw[ht];exact hn3),if_neg (by rw[hx];decide),if_neg (by rw[hy];decide),if_pos (by rw[ht];exact .inr (.inl hw))]
 have HM:=hid (fun W hW=>zbg s sNull hx W B d hW);have HI:=hid (fun W hW=>zbP s [40] false hy W B d hW);have HP0:=hid (hp.below bw);have hYl:Y=⟨#[97,110,100]⟩:=by rw[← hY,hw];rfl
 obtain rfl:kk=1:=by rw[← hkk];exact hk1
 rw[hYl]at HPK;clear ht hY hkk hn0 hn2 hn3 hx hy hp hk1 hYl hw;go_enter func180,ntmps180
 go_wp2_with fail
 generalize ((w.alloc (.cells #[.pointer (some ⟨B,0,none⟩)] 112)).alloc (.cells zzA 27))=W0 at *
 have c0:=C0.cl 0 _ rfl;refine (HPK.out _ HP0.out).mono ?_;rintro e w1 ⟨rfl,hb1⟩;have bw2:=hb1.alloc hb1.size (.cells #[.int .i64 1,.string ⟨#[97,110,100]⟩,.int .i64 n0,.int .i64 (t.p:Int)] 169);have X2:=Box.new w1 [.int .i64 1,.string ⟨#[97,110,100]⟩,.int .i64 n0,.int .i64 (t.p:Int)] 169;have C2:=(C0.next hb1).alloc (.cells #[.int .i64 1,.string ⟨#[97,110,100]⟩,.int .i64 n0,.int .i64 (t.p:Int)] 169);have R2:=(R0.next hb1).alloc (.cells #[.int .i64 1,.string ⟨#[97,110,100]⟩,.int .i64 n0,.int .i64 (t.p:Int)] 169);have HP2:=hid (HP0.out.below bw2);have KW2:=hid ((Kept.of_below (S:=fun b=>b=B) bw).behind bw2);have hz2:=bw2.size;have hz1:=hb1.size;have hRT:w.heap.size+1<w1.heap.size:=by omega
 clear C0 R0 hb1 bw c0 bw2;obtain ⟨T,hT⟩:∃ T,w1.heap.size=T:=⟨_,rfl⟩;rw[hT]at X2 hRT;have hTlt:=X2.lt;obtain ⟨R,hR⟩:∃ R,w.heap.size+1=R:=⟨_,rfl⟩;go_upto_region 8 with (fail)
 generalize w1.alloc (.cells #[.int .i64 1,.string ⟨#[97,110,100]⟩,.int .i64 n0,.int .i64 (t.p:Int)] 169)=W2 at *
 try rw[hT]
 try rw[hR]
 have hRR:w.heap.size+1≤R:=by omega
 rw[hR]at R2 hRT;clear hT hR;have c2:=C2.cl 0 _ rfl;obtain ⟨x0,x1,x2,x3⟩:=X2.four';have hCB:¬ w.heap.size=B:=by omega
 have hTB:¬ T=B:=by omega
 go_wp2_with (first|(go_at_call 88;refine (HM.out _ HP2.out).mono ?_;rintro e w3 ⟨rfl,hK3,hP3⟩;have C3:=C2.kept hK3 hCB;have c3:=C3.cl 0 _ rfl)|(go_at_call 107;refine (HI.out _ hP3).mono ?_;rintro e w4 ⟨rfl,hb4⟩;have C4:=C3.next hb4;have c4:=C4.cl 0 _ rfl;have P4:=hP3.below hb4;have X4:=(X2.kept hK3 hTB).next hb4;obtain ⟨y0,y1,y2,y3⟩:=X4.four')|(go_at_call 78;refine (zcc s 51 _ B d P4).mono ?_;rintro e w5 ⟨rfl,hK5,hP5⟩;have R6:=((R2.kept hK3 (by show ¬ R=B;omega)).next hb4).kept hK5 (by show ¬ R=B;omega);obtain ⟨z0,z1,z2,z3,z4,z5,z6⟩:=(R6).seven;obtain ⟨f0,f1,f2,f3,f4,f5,f6⟩:=(R6).free7))
 have SP:=(R6).setN (vs:=zzL) rfl;have K9:=Kept.setN (S:=fun b=>b=R) (B:=R) (.inl rfl) zzL 0 (Kept.refl _ w5);dsimp only[setN]at SP K9;obtain ⟨p0,p1,p2,p3,p4,p5,p6⟩:=SP.seven;refine bodyPost_ret (by simp[results,results180,go_sem,p0,p1,p2,p3,p4,p5,p6];try rfl) rfl ?_;rw[HE.out];exact ⟨_,_,rfl,((zaN w5 (fun b=>w5.heap.size≤b))).both K9 (fun b _ hb e=>by have e':b=R:=e;have:=R6.lt;omega) (fun b _ hb=>by have:=R6.lt;omega),(((KW2.out.trans hK3).behind hb4).trans hK5).then K9 (fun k hk e=>by have e':k=R:=e;omega),(hP5).apart K9 (by omega)⟩
theorem zgC (D:Dp) (B d:Nat) (w:World) (s:Ps) (hp:PAt w B d s) (hn2:(peekP s).k≠2) (hn3:(peekP s).k≠3) (hx:isP s sNull=false) (hy:isP s [40]=false) (hk1:(peekP s).k=1) (hw:(peekP s).t=sOr):Calls Tryz.prog 180 #[.pointer (some ⟨B,0,none⟩)] w (ExTo w B d (prL D s).1 (prL D s).2):=by
 have hlt:=hp.lt;have bw:Below w.heap.size w ((w.alloc (.cells #[.pointer (some ⟨B,0,none⟩)] 112)).alloc (.cells zzA 27)):=((Below.refl _ w).alloc (yG _) _).alloc (by simp) _;have C0:=(Box.new w [.pointer (some ⟨B,0,none⟩)] 112).alloc (.cells zzA 27);have R0:Box ((w.alloc (.cells #[.pointer (some ⟨B,0,none⟩)] 112)).alloc (.cells zzA 27)) (w.heap.size+1) zzL:=by
  have:=Box.new (w.alloc (.cells #[.pointer (some ⟨B,0,none⟩)] 112)) zzL 27;rw[World.size_alloc]at this;exact this
 have hz0:w.heap.size+2≤((w.alloc (.cells #[.pointer (some ⟨B,0,none⟩)] 112)).alloc (.cells zzA 27)).heap.size:=by simp
 obtain ⟨t,ht⟩:∃ t,peekP s=t:=⟨_,rfl⟩;obtain ⟨Y,hY⟩:∃ Y:ByteArray,(⟨t.t.toArray⟩:ByteArray)=Y:=⟨_,rfl⟩;have HPK:=hid (fun W hW=>zb0 s t Y ht hY W B d hW);have hbd:0≤t.n∧t.n≤9223372036854775807:=by rw[← ht];exact zc1 (s:=s) hp.2.2.2.1
 rw[ht]at hn2 hn3;obtain ⟨n0,hn0⟩:∃ n0,t.n=n0:=⟨_,rfl⟩;obtain ⟨kk,hkk⟩:∃ kk,t.k=kk:=⟨_,rfl⟩;rw[hn0]at hbd HPK;rw[hkk]at HPK;have hk2:(kk == 2)=false:=by rw[← hkk];simpa using hn2
 have hk3:(kk == 3)=false:=by rw[← hkk];simpa using hn3
 rw[ht]at hk1 hw;have HE:Hid (prL D s=(zEx,failP s 51)):=by
  show primP _ _ s=_
  unfold primP;rw[if_neg (by rw[ht];exact hn2),if_neg (by rw[ht];exact hn3),if_neg (by rw[hx];decide),if_neg (by rw[hy];decide),if_pos (by rw[ht];exact .inr (.inr (.inl hw)))]
 have HM:=hid (fun W hW=>zbg s sNull hx W B d hW);have HI:=hid (fun W hW=>zbP s [40] false hy W B d hW);have HP0:=hid (hp.below bw);have hYl:Y=⟨#[111,114]⟩:=by rw[← hY,hw];rfl
 obtain rfl:kk=1:=by rw[← hkk];exact hk1
 rw[hYl]at HPK;clear ht hY hkk hn0 hn2 hn3 hx hy hp hk1 hYl hw;go_enter func180,ntmps180
 go_wp2_with fail
 generalize ((w.alloc (.cells #[.pointer (some ⟨B,0,none⟩)] 112)).alloc (.cells zzA 27))=W0 at *
 have c0:=C0.cl 0 _ rfl;refine (HPK.out _ HP0.out).mono ?_;rintro e w1 ⟨rfl,hb1⟩;have bw2:=hb1.alloc hb1.size (.cells #[.int .i64 1,.string ⟨#[111,114]⟩,.int .i64 n0,.int .i64 (t.p:Int)] 169);have X2:=Box.new w1 [.int .i64 1,.string ⟨#[111,114]⟩,.int .i64 n0,.int .i64 (t.p:Int)] 169;have C2:=(C0.next hb1).alloc (.cells #[.int .i64 1,.string ⟨#[111,114]⟩,.int .i64 n0,.int .i64 (t.p:Int)] 169);have R2:=(R0.next hb1).alloc (.cells #[.int .i64 1,.string ⟨#[111,114]⟩,.int .i64 n0,.int .i64 (t.p:Int)] 169);have HP2:=hid (HP0.out.below bw2);have KW2:=hid ((Kept.of_below (S:=fun b=>b=B) bw).behind bw2);have hz2:=bw2.size;have hz1:=hb1.size;have hRT:w.heap.size+1<w1.heap.size:=by omega
 clear C0 R0 hb1 bw c0 bw2;obtain ⟨T,hT⟩:∃ T,w1.heap.size=T:=⟨_,rfl⟩;rw[hT]at X2 hRT;have hTlt:=X2.lt;obtain ⟨R,hR⟩:∃ R,w.heap.size+1=R:=⟨_,rfl⟩;go_upto_region 8 with (fail)
 generalize w1.alloc (.cells #[.int .i64 1,.string ⟨#[111,114]⟩,.int .i64 n0,.int .i64 (t.p:Int)] 169)=W2 at *
 try rw[hT]
 try rw[hR]
 have hRR:w.heap.size+1≤R:=by omega
 rw[hR]at R2 hRT;clear hT hR;have c2:=C2.cl 0 _ rfl;obtain ⟨x0,x1,x2,x3⟩:=X2.four';have hCB:¬ w.heap.size=B:=by omega
 have hTB:¬ T=B:=by omega
 go_wp2_with (first|(go_at_call 88;refine (HM.out _ HP2.out).mono ?_;rintro e w3 ⟨rfl,hK3,hP3⟩;have C3:=C2.kept hK3 hCB;have c3:=C3.cl 0 _ rfl)|(go_at_call 107;refine (HI.out _ hP3).mono ?_;rintro e w4 ⟨rfl,hb4⟩;have C4:=C3.next hb4;have c4:=C4.cl 0 _ rfl;have P4:=hP3.below hb4;have X4:=(X2.kept hK3 hTB).next hb4;obtain ⟨y0,y1,y2,y3⟩:=X4.four')|(go_at_call 78;refine (zcc s 51 _ B d P4).mono ?_;rintro e w5 ⟨rfl,hK5,hP5⟩;have R6:=((R2.kept hK3 (by show ¬ R=B;omega)).next hb4).kept hK5 (by show ¬ R=B;omega);obtain ⟨z0,z1,z2,z3,z4,z5,z6⟩:=(R6).seven;obtain ⟨f0,f1,f2,f3,f4,f5,f6⟩:=(R6).free7))
 have SP:=(R6).setN (vs:=zzL) rfl;have K9:=Kept.setN (S:=fun b=>b=R) (B:=R) (.inl rfl) zzL 0 (Kept.refl _ w5);dsimp only[setN]at SP K9;obtain ⟨p0,p1,p2,p3,p4,p5,p6⟩:=SP.seven;refine bodyPost_ret (by simp[results,results180,go_sem,p0,p1,p2,p3,p4,p5,p6];try rfl) rfl ?_;rw[HE.out];exact ⟨_,_,rfl,((zaN w5 (fun b=>w5.heap.size≤b))).both K9 (fun b _ hb e=>by have e':b=R:=e;have:=R6.lt;omega) (fun b _ hb=>by have:=R6.lt;omega),(((KW2.out.trans hK3).behind hb4).trans hK5).then K9 (fun k hk e=>by have e':k=R:=e;omega),(hP5).apart K9 (by omega)⟩
theorem zf7 (D:Dp) (B d:Nat) (w:World) (s:Ps) (hp:PAt w B d s) (hn2:(peekP s).k≠2) (hn3:(peekP s).k≠3) (hx:isP s sNull=false) (hy:isP s [40]=false) (hk1:(peekP s).k=1) (hw:(peekP s).t=sNot):Calls Tryz.prog 180 #[.pointer (some ⟨B,0,none⟩)] w (ExTo w B d (prL D s).1 (prL D s).2):=by
 have hlt:=hp.lt;have bw:Below w.heap.size w ((w.alloc (.cells #[.pointer (some ⟨B,0,none⟩)] 112)).alloc (.cells zzA 27)):=((Below.refl _ w).alloc (yG _) _).alloc (by simp) _;have C0:=(Box.new w [.pointer (some ⟨B,0,none⟩)] 112).alloc (.cells zzA 27);have R0:Box ((w.alloc (.cells #[.pointer (some ⟨B,0,none⟩)] 112)).alloc (.cells zzA 27)) (w.heap.size+1) zzL:=by
  have:=Box.new (w.alloc (.cells #[.pointer (some ⟨B,0,none⟩)] 112)) zzL 27;rw[World.size_alloc]at this;exact this
 have hz0:w.heap.size+2≤((w.alloc (.cells #[.pointer (some ⟨B,0,none⟩)] 112)).alloc (.cells zzA 27)).heap.size:=by simp
 obtain ⟨t,ht⟩:∃ t,peekP s=t:=⟨_,rfl⟩;obtain ⟨Y,hY⟩:∃ Y:ByteArray,(⟨t.t.toArray⟩:ByteArray)=Y:=⟨_,rfl⟩;have HPK:=hid (fun W hW=>zb0 s t Y ht hY W B d hW);have hbd:0≤t.n∧t.n≤9223372036854775807:=by rw[← ht];exact zc1 (s:=s) hp.2.2.2.1
 rw[ht]at hn2 hn3;obtain ⟨n0,hn0⟩:∃ n0,t.n=n0:=⟨_,rfl⟩;obtain ⟨kk,hkk⟩:∃ kk,t.k=kk:=⟨_,rfl⟩;rw[hn0]at hbd HPK;rw[hkk]at HPK;have hk2:(kk == 2)=false:=by rw[← hkk];simpa using hn2
 have hk3:(kk == 3)=false:=by rw[← hkk];simpa using hn3
 rw[ht]at hk1 hw;have HE:Hid (prL D s=(zEx,failP s 51)):=by
  show primP _ _ s=_
  unfold primP;rw[if_neg (by rw[ht];exact hn2),if_neg (by rw[ht];exact hn3),if_neg (by rw[hx];decide),if_neg (by rw[hy];decide),if_pos (by rw[ht];exact .inr (.inr (.inr hw)))]
 have HM:=hid (fun W hW=>zbg s sNull hx W B d hW);have HI:=hid (fun W hW=>zbP s [40] false hy W B d hW);have HP0:=hid (hp.below bw);have hYl:Y=⟨#[110,111,116]⟩:=by rw[← hY,hw];rfl
 obtain rfl:kk=1:=by rw[← hkk];exact hk1
 rw[hYl]at HPK;clear ht hY hkk hn0 hn2 hn3 hx hy hp hk1 hYl hw;go_enter func180,ntmps180
 go_wp2_with fail
 generalize ((w.alloc (.cells #[.pointer (some ⟨B,0,none⟩)] 112)).alloc (.cells zzA 27))=W0 at *
 have c0:=C0.cl 0 _ rfl;refine (HPK.out _ HP0.out).mono ?_;rintro e w1 ⟨rfl,hb1⟩;have bw2:=hb1.alloc hb1.size (.cells #[.int .i64 1,.string ⟨#[110,111,116]⟩,.int .i64 n0,.int .i64 (t.p:Int)] 169);have X2:=Box.new w1 [.int .i64 1,.string ⟨#[110,111,116]⟩,.int .i64 n0,.int .i64 (t.p:Int)] 169;have C2:=(C0.next hb1).alloc (.cells #[.int .i64 1,.string ⟨#[110,111,116]⟩,.int .i64 n0,.int .i64 (t.p:Int)] 169);have R2:=(R0.next hb1).alloc (.cells #[.int .i64 1,.string ⟨#[110,111,116]⟩,.int .i64 n0,.int .i64 (t.p:Int)] 169);have HP2:=hid (HP0.out.below bw2);have KW2:=hid ((Kept.of_below (S:=fun b=>b=B) bw).behind bw2);have hz2:=bw2.size;have hz1:=hb1.size;have hRT:w.heap.size+1<w1.heap.size:=by omega
 clear C0 R0 hb1 bw c0 bw2;obtain ⟨T,hT⟩:∃ T,w1.heap.size=T:=⟨_,rfl⟩;rw[hT]at X2 hRT;have hTlt:=X2.lt;obtain ⟨R,hR⟩:∃ R,w.heap.size+1=R:=⟨_,rfl⟩;go_upto_region 8 with (fail)
 generalize w1.alloc (.cells #[.int .i64 1,.string ⟨#[110,111,116]⟩,.int .i64 n0,.int .i64 (t.p:Int)] 169)=W2 at *
 try rw[hT]
 try rw[hR]
 have hRR:w.heap.size+1≤R:=by omega
 rw[hR]at R2 hRT;clear hT hR;have c2:=C2.cl 0 _ rfl;obtain ⟨x0,x1,x2,x3⟩:=X2.four';have hCB:¬ w.heap.size=B:=by omega
 have hTB:¬ T=B:=by omega
 go_wp2_with (first|(go_at_call 88;refine (HM.out _ HP2.out).mono ?_;rintro e w3 ⟨rfl,hK3,hP3⟩;have C3:=C2.kept hK3 hCB;have c3:=C3.cl 0 _ rfl)|(go_at_call 107;refine (HI.out _ hP3).mono ?_;rintro e w4 ⟨rfl,hb4⟩;have C4:=C3.next hb4;have c4:=C4.cl 0 _ rfl;have P4:=hP3.below hb4;have X4:=(X2.kept hK3 hTB).next hb4;obtain ⟨y0,y1,y2,y3⟩:=X4.four')|(go_at_call 78;refine (zcc s 51 _ B d P4).mono ?_;rintro e w5 ⟨rfl,hK5,hP5⟩;have R6:=((R2.kept hK3 (by show ¬ R=B;omega)).next hb4).kept hK5 (by show ¬ R=B;omega);obtain ⟨z0,z1,z2,z3,z4,z5,z6⟩:=(R6).seven;obtain ⟨f0,f1,f2,f3,f4,f5,f6⟩:=(R6).free7))
 have SP:=(R6).setN (vs:=zzL) rfl;have K9:=Kept.setN (S:=fun b=>b=R) (B:=R) (.inl rfl) zzL 0 (Kept.refl _ w5);dsimp only[setN]at SP K9;obtain ⟨p0,p1,p2,p3,p4,p5,p6⟩:=SP.seven;refine bodyPost_ret (by simp[results,results180,go_sem,p0,p1,p2,p3,p4,p5,p6];try rfl) rfl ?_;rw[HE.out];exact ⟨_,_,rfl,((zaN w5 (fun b=>w5.heap.size≤b))).both K9 (fun b _ hb e=>by have e':b=R:=e;have:=R6.lt;omega) (fun b _ hb=>by have:=R6.lt;omega),(((KW2.out.trans hK3).behind hb4).trans hK5).then K9 (fun k hk e=>by have e':k=R:=e;omega),(hP5).apart K9 (by omega)⟩
theorem zeD {Y:ByteArray} {l:Str} {x:Str} (hY:(⟨l.toArray⟩:ByteArray)=Y) (h:l≠x):(Y.toList == (⟨x.toArray⟩:ByteArray).toList)=false :=
 str_q (by rw[← hY,zeg];exact ⟨fun e=>absurd e h,fun e=>by cases e⟩)
theorem zjG (D:Dp) (B d:Nat) (w:World) (s:Ps) (hp:PAt w B d s) (hn2:(peekP s).k≠2) (hn3:(peekP s).k≠3) (hx:isP s sNull=false) (hy:isP s [40]=false) (hk1:(peekP s).k=1) (ha:(peekP s).t≠sAnd) (ho:(peekP s).t≠sOr) (hnt:(peekP s).t≠sNot) (hz:isP (advP s) [40]=false):Calls Tryz.prog 180 #[.pointer (some ⟨B,0,none⟩)] w (ExTo w B d (prL D s).1 (prL D s).2):=by
 have hlt:=hp.lt;have bw:Below w.heap.size w ((w.alloc (.cells #[.pointer (some ⟨B,0,none⟩)] 112)).alloc (.cells zzA 27)):=((Below.refl _ w).alloc (yG _) _).alloc (by simp) _;have C0:=(Box.new w [.pointer (some ⟨B,0,none⟩)] 112).alloc (.cells zzA 27);have R0:Box ((w.alloc (.cells #[.pointer (some ⟨B,0,none⟩)] 112)).alloc (.cells zzA 27)) (w.heap.size+1) zzL:=by
  have:=Box.new (w.alloc (.cells #[.pointer (some ⟨B,0,none⟩)] 112)) zzL 27;rw[World.size_alloc]at this;exact this
 have hz0:w.heap.size+2≤((w.alloc (.cells #[.pointer (some ⟨B,0,none⟩)] 112)).alloc (.cells zzA 27)).heap.size:=by simp
 obtain ⟨t,ht⟩:∃ t,peekP s=t:=⟨_,rfl⟩;obtain ⟨Y,hY⟩:∃ Y:ByteArray,(⟨t.t.toArray⟩:ByteArray)=Y:=⟨_,rfl⟩;have HPK:=hid (fun W hW=>zb0 s t Y ht hY W B d hW);have hbd:0≤t.n∧t.n≤9223372036854775807:=by rw[← ht];exact zc1 (s:=s) hp.2.2.2.1
 rw[ht]at hn2 hn3;obtain ⟨n0,hn0⟩:∃ n0,t.n=n0:=⟨_,rfl⟩;obtain ⟨kk,hkk⟩:∃ kk,t.k=kk:=⟨_,rfl⟩;rw[hn0]at hbd HPK;rw[hkk]at HPK;have hk2:(kk == 2)=false:=by rw[← hkk];simpa using hn2
 have hk3:(kk == 3)=false:=by rw[← hkk];simpa using hn3
 rw[ht]at hk1 ha ho hnt;have hi2:=(zbN (s:=s) (by rw[ht,hk1];decide)).2.1;have q1:=zeD hY ha;have q2:=zeD hY ho;have q3:=zeD hY hnt;have q1b:(Y.toList == [97,110,100])=false:=by have:=q1;rw[ByteArray.toList_eq ⟨(sAnd:Str).toArray⟩]at this;exact this
 have q2b:(Y.toList == [111,114])=false:=by have:=q2;rw[ByteArray.toList_eq ⟨(sOr:Str).toArray⟩]at this;exact this
 have q3b:(Y.toList == [110,111,116])=false:=by have:=q3;rw[ByteArray.toList_eq ⟨(sNot:Str).toArray⟩]at this;exact this
 obtain rfl:kk=1:=by rw[← hkk];exact hk1
 have HM:=hid (fun W hW=>zbg s sNull hx W B d hW);have HI:=hid (fun W hW=>zbP s [40] false hy W B d hW);obtain ⟨ii,hii⟩:∃ ii,s.i=ii:=⟨_,rfl⟩;have hil2:ii≤20000:=by rw[← hii];have:=hp.il;have:=hp.tl;omega
 have HII:=hid hii;have HI2:=hid hi2;have HP0:=hid (hp.below bw);have HE:Hid (prL D s=((zax t.t),advP s)):=by
  show primP _ _ s=_
  unfold primP;rw[if_neg (by rw[ht];exact hn2),if_neg (by rw[ht];exact hn3),if_neg (by rw[hx];decide),if_neg (by rw[hy];decide),if_neg (by rw[ht];rintro (h|h|h|h);exact h hk1;exact ha h;exact ho h;exact hnt h),if_neg (by rw[hz];decide),ht]
 have HCO:Hid (∀ W,Calls Tryz.prog 25 #[.string Y] W (ze2 W (fun _=>False) (zax t.t))):=fun W=>by rw[← hY];exact zhm t.t W _
 have HM2:=hid (fun W hW=>zbg (advP s) [40] hz W B d hW);clear ht hY hkk hn0 hn2 hn3 hx hy hp hk1 ha ho hnt hz hi2 hii;go_enter func180,ntmps180
 go_wp2_with fail
 generalize ((w.alloc (.cells #[.pointer (some ⟨B,0,none⟩)] 112)).alloc (.cells zzA 27))=W0 at *
 have c0:=C0.cl 0 _ rfl;refine (HPK.out _ HP0.out).mono ?_;rintro e w1 ⟨rfl,hb1⟩;have bw2:=hb1.alloc hb1.size (.cells #[.int .i64 1,.string Y,.int .i64 n0,.int .i64 (t.p:Int)] 169);have X2:=Box.new w1 [.int .i64 1,.string Y,.int .i64 n0,.int .i64 (t.p:Int)] 169;have C2:=(C0.next hb1).alloc (.cells #[.int .i64 1,.string Y,.int .i64 n0,.int .i64 (t.p:Int)] 169);have R2:=(R0.next hb1).alloc (.cells #[.int .i64 1,.string Y,.int .i64 n0,.int .i64 (t.p:Int)] 169);have HP2:=hid (HP0.out.below bw2);have KW2:=hid ((Kept.of_below (S:=fun b=>b=B) bw).behind bw2);have hz2:=bw2.size;have hz1:=hb1.size;have hRT:w.heap.size+1<w1.heap.size:=by omega
 clear C0 R0 hb1 bw c0 bw2;obtain ⟨T,hT⟩:∃ T,w1.heap.size=T:=⟨_,rfl⟩;rw[hT]at X2 hRT;have hTlt:=X2.lt;obtain ⟨R,hR⟩:∃ R,w.heap.size+1=R:=⟨_,rfl⟩;go_upto_region 8 with (fail)
 generalize w1.alloc (.cells #[.int .i64 1,.string Y,.int .i64 n0,.int .i64 (t.p:Int)] 169)=W2 at *
 try rw[hT]
 try rw[hR]
 have hRR:w.heap.size+1≤R:=by omega
 rw[hR]at R2 hRT;clear hT hR;have c2:=C2.cl 0 _ rfl;obtain ⟨x0,x1,x2,x3⟩:=X2.four';have hCB:¬ w.heap.size=B:=by omega
 have hTB:¬ T=B:=by omega
 go_upto_region 15 with (first|(go_at_call 88;refine (HM.out _ HP2.out).mono ?_;rintro e w3 ⟨rfl,hK3,hP3⟩;have C3:=C2.kept hK3 hCB;have c3:=C3.cl 0 _ rfl)|(go_at_call 107;refine (HI.out _ hP3).mono ?_;rintro e w4 ⟨rfl,hb4⟩;have C5:=C3.next hb4;have c5:=C5.cl 0 _ rfl;have HP5:=hid (hP3.below hb4);have X5:=(X2.kept hK3 hTB).next hb4;obtain ⟨y0,y1,y2,y3⟩:=X5.four';have R5:=(R2.kept hK3 (by show ¬ R=B;omega)).next hb4))
 have KW5:=hid ((KW2.out.trans hK3).behind hb4);have hzz:T<w4.heap.size:=X5.lt;have hzr:R<w4.heap.size:=R5.lt;clear q1 q2 q3 q1b q2b q3b x0 x1 x2 x3 y0 y1 y2 y3 c2 c3 X2 C2 R2 hK3 hP3 hb4 C3;obtain ⟨_,_,_,_,sl,hbx,_⟩:=HP5.out;rw[HII.out]at hbx;obtain ⟨b0,b1,b2,b3,b4,b5,g1,g3,g4,g5⟩:=hbx.six;go_upto_region 16 with (fail)
 have X4:=X5.other (C:=B) (by omega) 1 (.int .i64 ((ii:Int)+1));have C4:=C5.other (C:=B) (by omega) 1 (.int .i64 ((ii:Int)+1));have R4:=R5.other (C:=B) (by omega) 1 (.int .i64 ((ii:Int)+1));have K4:=(Kept.refl (fun b=>b=B) w4).set ⟨B,1,none⟩ (.inl rfl) (.int .i64 ((ii:Int)+1));have P4:PAt (w4.setCell ⟨B,1,none⟩ (.int .i64 ((ii:Int)+1))) B d (advP s):=HP5.out.next HI2.out K4 (fun sl h=>by have:=h.put 1 (.int .i64 ((s.i:Int)+1));rw[HII.out]at this ⊢;exact this);have HP4:=hid P4;have KW4:=hid (KW5.out.trans K4);have hz4:w4.heap.size≤(w4.setCell ⟨B,1,none⟩ (.int .i64 ((ii:Int)+1))).heap.size:=K4.size;clear b0 b1 b2 b3 b4 b5 g1 g3 g4 g5 hbx X5 R5 C5 K4 P4;generalize w4.setCell ⟨B,1,none⟩ (.int .i64 ((ii:Int)+1))=W4 at *
 obtain ⟨x0,x1,x2,x3⟩:=X4.four';have c4:=C4.cl 0 _ rfl;go_wp2_with (first|(go_at_call 88;refine (HM2.out _ HP4.out).mono ?_;rintro e w6 ⟨rfl,hK6,hP6⟩;have X6:=X4.kept hK6 hTB;obtain ⟨y0,y1,y2,y3⟩:=X6.four')|(go_at_call 25;refine (HCO.out _).mono ?_;rintro e w7 ⟨ao,cp,rfl,hA7,hb7⟩;have R7:=(R4.kept hK6 (by show ¬ R=B;omega)).next hb7;obtain ⟨z0,z1,z2,z3,z4,z5,z6⟩:=(R7).seven;obtain ⟨f0,f1,f2,f3,f4,f5,f6⟩:=(R7).free7))
 have SP:=(R7).setN (vs:=[.int .i64 (zax t.t).k,.string ⟨(zax t.t).nm.toArray⟩,.int .i64 (zax t.t).v.k,.int .i64 (zax t.t).v.n,.string ⟨(zax t.t).v.t.toArray⟩,.string ⟨(zax t.t).op.toArray⟩,.slice ao (zax t.t).xs.length cp]) rfl;have K9:=Kept.setN (S:=fun b=>b=R) (B:=R) (.inl rfl) [.int .i64 (zax t.t).k,.string ⟨(zax t.t).nm.toArray⟩,.int .i64 (zax t.t).v.k,.int .i64 (zax t.t).v.n,.string ⟨(zax t.t).v.t.toArray⟩,.string ⟨(zax t.t).op.toArray⟩,.slice ao (zax t.t).xs.length cp] 0 (Kept.refl _ w7);dsimp only[setN]at SP K9;obtain ⟨p0,p1,p2,p3,p4,p5,p6⟩:=SP.seven;refine bodyPost_ret (by simp[results,results180,go_sem,p0,p1,p2,p3,p4,p5,p6];try rfl) rfl ?_;rw[HE.out]
 exact ⟨_,_,rfl,(hA7).both K9 (fun b _ hb e=>by have e':b=R:=e;rcases hb with hb|hb;exact hb.elim;have:=R4.lt;have:=hK6.size;omega) (fun b _ hb=>by rcases hb with hb|hb;exact hb.elim;have:=R4.lt;have:=hK6.size;omega),((KW4.out.trans hK6).behind hb7).then K9 (fun k hk e=>by have e':k=R:=e;omega),(hP6.below hb7).apart K9 (by omega)⟩
theorem ziA (D:Dp) (B d:Nat) (hG:GoesE D.dor) (hd:DpOk 80 D.dor B d) (w:World) (s:Ps) (hp:PAt w B d s) (hn2:(peekP s).k≠2) (hn3:(peekP s).k≠3) (hx:isP s sNull=false) (hy:isP s [40]=false) (hk1:(peekP s).k=1) (ha:(peekP s).t≠sAnd) (ho:(peekP s).t≠sOr) (hnt:(peekP s).t≠sNot) (hz:isP (advP s) [40]=true):Calls Tryz.prog 180 #[.pointer (some ⟨B,0,none⟩)] w (ExTo w B d (prL D s).1 (prL D s).2):=by
 have hlt:=hp.lt;have bw:Below w.heap.size w ((w.alloc (.cells #[.pointer (some ⟨B,0,none⟩)] 112)).alloc (.cells zzA 27)):=((Below.refl _ w).alloc (yG _) _).alloc (by simp) _;have C0:=(Box.new w [.pointer (some ⟨B,0,none⟩)] 112).alloc (.cells zzA 27);have R0:Box ((w.alloc (.cells #[.pointer (some ⟨B,0,none⟩)] 112)).alloc (.cells zzA 27)) (w.heap.size+1) zzL:=by
  have:=Box.new (w.alloc (.cells #[.pointer (some ⟨B,0,none⟩)] 112)) zzL 27;rw[World.size_alloc]at this;exact this
 have hz0:w.heap.size+2≤((w.alloc (.cells #[.pointer (some ⟨B,0,none⟩)] 112)).alloc (.cells zzA 27)).heap.size:=by simp
 obtain ⟨t,ht⟩:∃ t,peekP s=t:=⟨_,rfl⟩;obtain ⟨Y,hY⟩:∃ Y:ByteArray,(⟨t.t.toArray⟩:ByteArray)=Y:=⟨_,rfl⟩;have HPK:=hid (fun W hW=>zb0 s t Y ht hY W B d hW);have hbd:0≤t.n∧t.n≤9223372036854775807:=by rw[← ht];exact zc1 (s:=s) hp.2.2.2.1
 rw[ht]at hn2 hn3;obtain ⟨n0,hn0⟩:∃ n0,t.n=n0:=⟨_,rfl⟩;obtain ⟨kk,hkk⟩:∃ kk,t.k=kk:=⟨_,rfl⟩;rw[hn0]at hbd HPK;rw[hkk]at HPK;have hk2:(kk == 2)=false:=by rw[← hkk];simpa using hn2
 have hk3:(kk == 3)=false:=by rw[← hkk];simpa using hn3
 rw[ht]at hk1 ha ho hnt;have hi2:=(zbN (s:=s) (by rw[ht,hk1];decide)).2.1;have q1:=zeD hY ha;have q2:=zeD hY ho;have q3:=zeD hY hnt;have q1b:(Y.toList == [97,110,100])=false:=by have:=q1;rw[ByteArray.toList_eq ⟨(sAnd:Str).toArray⟩]at this;exact this
 have q2b:(Y.toList == [111,114])=false:=by have:=q2;rw[ByteArray.toList_eq ⟨(sOr:Str).toArray⟩]at this;exact this
 have q3b:(Y.toList == [110,111,116])=false:=by have:=q3;rw[ByteArray.toList_eq ⟨(sNot:Str).toArray⟩]at this;exact this
 obtain rfl:kk=1:=by rw[← hkk];exact hk1
 have HM:=hid (fun W hW=>zbg s sNull hx W B d hW);have HI:=hid (fun W hW=>zbP s [40] false hy W B d hW);obtain ⟨ii,hii⟩:∃ ii,s.i=ii:=⟨_,rfl⟩;have hil2:ii≤20000:=by rw[← hii];have:=hp.il;have:=hp.tl;omega
 have HII:=hid hii;have HI2:=hid hi2;have HP0:=hid (hp.below bw);obtain ⟨L,hL⟩:∃ L,(listP (argP D.dor) [] (advP (advP s)))=L:=⟨_,rfl⟩;have HE:Hid (prL D s=((callE t.t L.1),wantP [41] L.2)):=by
  show primP _ _ s=_
  rw[← hL];unfold primP;rw[if_neg (by rw[ht];exact hn2),if_neg (by rw[ht];exact hn3),if_neg (by rw[hx];decide),if_neg (by rw[hy];decide),if_neg (by rw[ht];rintro (h|h|h|h);exact h hk1;exact ha h;exact ho h;exact hnt h),if_pos hz,ht]
 have HV:Hid (∀ v,Value.agg #[.int .i64 5,.string Y,.int .i64 0,.int .i64 0,.string ⟨#[]⟩,.string ⟨#[]⟩,v]=exV (callE t.t L.1) v):=fun v=>by show Value.agg #[.int .i64 5,.string Y,.int .i64 0,.int .i64 0,.string ⟨#[]⟩,.string ⟨#[]⟩,v]=Value.agg #[.int .i64 5,.string ⟨t.t.toArray⟩,.int .i64 0,.int .i64 0,.string ⟨[].toArray⟩,.string ⟨[].toArray⟩,v];rw[← hY]
 have HM2:=hid (fun W hW=>zbO (advP s) [40] hz W B d hW);have HLL:=hid hL;clear hL;have HD:=hid hd;have HG:=hid hG;clear ht hY hkk hn0 hn2 hn3 hx hy hp hk1 ha ho hnt hz hi2 hii hd hG;go_enter func180,ntmps180
 go_wp2_with fail
 generalize ((w.alloc (.cells #[.pointer (some ⟨B,0,none⟩)] 112)).alloc (.cells zzA 27))=W0 at *
 have c0:=C0.cl 0 _ rfl;refine (HPK.out _ HP0.out).mono ?_;rintro e w1 ⟨rfl,hb1⟩;have bw2:=hb1.alloc hb1.size (.cells #[.int .i64 1,.string Y,.int .i64 n0,.int .i64 (t.p:Int)] 169);have X2:=Box.new w1 [.int .i64 1,.string Y,.int .i64 n0,.int .i64 (t.p:Int)] 169;have C2:=(C0.next hb1).alloc (.cells #[.int .i64 1,.string Y,.int .i64 n0,.int .i64 (t.p:Int)] 169);have R2:=(R0.next hb1).alloc (.cells #[.int .i64 1,.string Y,.int .i64 n0,.int .i64 (t.p:Int)] 169);have HP2:=hid (HP0.out.below bw2);have KW2:=hid ((Kept.of_below (S:=fun b=>b=B) bw).behind bw2);have hz2:=bw2.size;have hz1:=hb1.size;have hRT:w.heap.size+1<w1.heap.size:=by omega
 clear C0 R0 hb1 bw c0 bw2;obtain ⟨T,hT⟩:∃ T,w1.heap.size=T:=⟨_,rfl⟩;rw[hT]at X2 hRT;have hTlt:=X2.lt;obtain ⟨R,hR⟩:∃ R,w.heap.size+1=R:=⟨_,rfl⟩;go_upto_region 8 with (fail)
 generalize w1.alloc (.cells #[.int .i64 1,.string Y,.int .i64 n0,.int .i64 (t.p:Int)] 169)=W2 at *
 try rw[hT]
 try rw[hR]
 have hRR:w.heap.size+1≤R:=by omega
 rw[hR]at R2 hRT;clear hT hR;have c2:=C2.cl 0 _ rfl;obtain ⟨x0,x1,x2,x3⟩:=X2.four';have hCB:¬ w.heap.size=B:=by omega
 have hTB:¬ T=B:=by omega
 go_upto_region 15 with (first|(go_at_call 88;refine (HM.out _ HP2.out).mono ?_;rintro e w3 ⟨rfl,hK3,hP3⟩;have C3:=C2.kept hK3 hCB;have c3:=C3.cl 0 _ rfl)|(go_at_call 107;refine (HI.out _ hP3).mono ?_;rintro e w4 ⟨rfl,hb4⟩;have C5:=C3.next hb4;have c5:=C5.cl 0 _ rfl;have HP5:=hid (hP3.below hb4);have X5:=(X2.kept hK3 hTB).next hb4;obtain ⟨y0,y1,y2,y3⟩:=X5.four';have R5:=(R2.kept hK3 (by show ¬ R=B;omega)).next hb4))
 have KW5:=hid ((KW2.out.trans hK3).behind hb4);have hzz:T<w4.heap.size:=X5.lt;have hzr:R<w4.heap.size:=R5.lt;clear q1 q2 q3 q1b q2b q3b x0 x1 x2 x3 y0 y1 y2 y3 c2 c3 X2 C2 R2 hK3 hP3 hb4 C3;obtain ⟨_,_,_,_,sl,hbx,_⟩:=HP5.out;rw[HII.out]at hbx;obtain ⟨b0,b1,b2,b3,b4,b5,g1,g3,g4,g5⟩:=hbx.six;go_upto_region 16 with (fail)
 have X4:=X5.other (C:=B) (by omega) 1 (.int .i64 ((ii:Int)+1));have C4:=C5.other (C:=B) (by omega) 1 (.int .i64 ((ii:Int)+1));have R4:=R5.other (C:=B) (by omega) 1 (.int .i64 ((ii:Int)+1));have K4:=(Kept.refl (fun b=>b=B) w4).set ⟨B,1,none⟩ (.inl rfl) (.int .i64 ((ii:Int)+1));have P4:PAt (w4.setCell ⟨B,1,none⟩ (.int .i64 ((ii:Int)+1))) B d (advP s):=HP5.out.next HI2.out K4 (fun sl h=>by have:=h.put 1 (.int .i64 ((s.i:Int)+1));rw[HII.out]at this ⊢;exact this);have HP4:=hid P4;have KW4:=hid (KW5.out.trans K4);have hz4:w4.heap.size≤(w4.setCell ⟨B,1,none⟩ (.int .i64 ((ii:Int)+1))).heap.size:=K4.size;clear b0 b1 b2 b3 b4 b5 g1 g3 g4 g5 hbx X5 R5 C5 K4 P4;generalize w4.setCell ⟨B,1,none⟩ (.int .i64 ((ii:Int)+1))=W4 at *
 obtain ⟨x0,x1,x2,x3⟩:=X4.four';have c4:=C4.cl 0 _ rfl;go_upto_region 19 with (go_at_call 88;refine (HM2.out _ HP4.out).mono ?_;rintro e w6 ⟨rfl,hK6,hP6⟩)
 have X6:=(X4.kept hK6 hTB).alloc (.cells #[.slice none 0 0] 25);have R6:=(R4.kept hK6 (by show ¬ R=B;omega)).alloc (.cells #[.slice none 0 0] 25);have C6:=(C4.kept hK6 hCB).alloc (.cells #[.slice none 0 0] 25);have A6:=Box.new w6 [.slice none 0 0] 25;have hbw:=(Below.refl w6.heap.size w6).alloc (yG _) (.cells #[.slice none 0 0] 25);have HP6:=hid (hP6.below hbw);have KW6:=hid ((KW4.out.trans hK6).behind hbw);have hz6:=hK6.size;have hz7:w6.heap.size+1≤(w6.alloc (.cells #[.slice none 0 0] 25)).heap.size:=by simp
 clear hP6 hK6 hbw X4 R4 C4 c4 c5;obtain ⟨A,hA⟩:∃ A,w6.heap.size=A:=⟨_,rfl⟩;rw[hA]at A6 hz7;try rw[hA]
 generalize w6.alloc (.cells #[.slice none 0 0] 25)=W6 at *
 have c6:=C6.cl 0 _ rfl;have hAlt:B<A∧w.heap.size<A∧T<A∧R<A:=by refine ⟨?_,?_,?_,?_⟩<;>omega
 obtain ⟨hBA,hCA,hTA,hRA⟩:=hAlt;have pg:GatP W6 W6.heap.size A w.heap.size B:=⟨by omega,by omega,by omega,by omega,by omega,by omega⟩;have hI:ArgI W6 W6.heap.size A w.heap.size B d 0 W6 [] (advP (advP s)):=⟨yS _,HP6.out,.slice none 0 0,[],A6,rfl,C6,Own.nil _ _ _ _,Kept.refl _ _,yG _⟩;have hlist:=zhO 182 (enters_of func182 (by kernel_rfl) rfl) #[] #[.pointer (some ⟨A,0,none⟩),.pointer (some ⟨w.heap.size,0,none⟩)] (argP D.dor) (ArgI W6 W6.heap.size A w.heap.size B d 0) (ArgI W6 W6.heap.size A w.heap.size B d 1) B d
  (fun W a s h=>h.2.1) (fun W a s h=>h.2.1) (fun W W' a s h hK hP=>by obtain ⟨h1,_,v,cells,h3⟩:=h;exact ⟨h1,hP,v,cells,h3.next pg hK⟩)
  (fun W W' a s h hK hP=>by obtain ⟨h1,_,v,cells,h3⟩:=h;exact ⟨by show a.length≤s.i+1+0;omega,hP,v,cells,h3.next pg hK⟩) (zfM HG.out)
  (fun W a s h=>zqw D B d HG.out HD.out W6 W6.heap.size A w.heap.size pg hBA W a s h) [] (advP (advP s)) W6 hI
 rw[HLL.out]at hlist;have HL:=hid hlist;have HPG:=hid pg;clear hlist hI pg;go_upto_region 20 with (go_at_call 110;refine HL.out.mono ?_;rintro e w8 ⟨rfl,hJ⟩)
 obtain ⟨hln,hP8,v,cells,hs8⟩:=hJ;have c8:=hs8.ptr;have HP8:=hid hP8;have X8:=X6.kept hs8.kept (by show ¬ (T=B∨T=A∨W6.heap.size≤T);omega);have R8:=R6.kept hs8.kept (by show ¬ (R=B∨R=A∨W6.heap.size≤R);omega);have C8:=hs8.c;have HR8:=hid hs8.own.rep;obtain ⟨ao,cp,rfl⟩:=hs8.own.form;have A8:=hs8.a;obtain ⟨nn,hnn⟩:∃ nn,(List.map exD L.1).length=nn:=⟨_,rfl⟩;rw[hnn]at A8 HR8;have HNN:=hid hnn;have K8:=hid hs8.kept;have hz8:=hs8.le;clear hs8 hP8 c6 X6 R6 C6 A6 hnn;go_upto_region 21 with (go_at_call 94;refine (zar _ [41] _ B d HP8.out).mono ?_;rintro e w9 ⟨rfl,hK9,hP9⟩)
 have X9:=X8.kept hK9 hTB;have R9:=R8.kept hK9 (by show ¬ R=B;omega);have A9:=A8.kept hK9 (by show ¬ A=B;omega);have HR9:=hid (HR8.out.kept hK9 (fun b _ hb e=>by have e':b=B:=e;omega));have hz9:=hK9.size;obtain ⟨y0,y1,y2,y3⟩:=X9.four';have a9:=A9.cl 0 _ rfl;obtain ⟨z0,z1,z2,z3,z4,z5,z6⟩:=(R9).seven;obtain ⟨f0,f1,f2,f3,f4,f5,f6⟩:=(R9).free7;go_wp2_with fail
 have SP:=R9.setN (vs:=[.int .i64 5,.string Y,.int .i64 0,.int .i64 0,.string ⟨#[]⟩,.string ⟨#[]⟩,.slice ao nn cp]) rfl;have K10:=Kept.setN (S:=fun b=>b=R) (B:=R) (.inl rfl) [.int .i64 5,.string Y,.int .i64 0,.int .i64 0,.string ⟨#[]⟩,.string ⟨#[]⟩,.slice ao nn cp] 0 (Kept.refl _ w9);dsimp only[setN]at SP K10;obtain ⟨p0,p1,p2,p3,p4,p5,p6⟩:=SP.seven;refine bodyPost_ret (by simp[results,results180,go_sem,p0,p1,p2,p3,p4,p5,p6];try rfl) rfl ?_;rw[HE.out];have hlen:nn=(callE t.t L.1).xs.length:=by rw[← HNN.out];exact yC _
 have HA10:=HR9.out.both K10 (ok':=fun b=>w.heap.size≤b) (fun b _ hb e=>by have e':b=R:=e;omega) (fun b _ hb=>by omega);rw[hlen]at HA10 K10 ⊢;refine ⟨ao,cp,congrArg Ending.returned (HV.out _),?_,?_,hP9.apart K10 (by omega)⟩
 ·show Rep _ _ (.sl 7 (exDs L.1)) _
  rw[zdh];exact HA10
 ·exact ((KW6.out.then K8.out (fun k hk e=>by rcases e with e|e|e;exact e;omega;omega)).trans hK9).then K10 (fun k hk e=>by have e':k=R:=e;omega)
