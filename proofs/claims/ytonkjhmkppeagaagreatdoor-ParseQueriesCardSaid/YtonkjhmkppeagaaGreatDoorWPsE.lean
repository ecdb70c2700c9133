/- Walks: brackets; arguments; what is tightest. Walks: what is tightest. -/
import Derived.Test.YtonkjhmkppeagaaGreatDoorWPsD
set_option maxRecDepth 100000
set_option maxHeartbeats 6400000
set_option linter.unusedVariables false
set_option linter.unusedSimpArgs false
namespace Go.Proofs.YtonkjhmkppeagaaGreatDoor.Pz
open Go.Proofs.Tryz
open Go.Lib (hid)
open Go.RowKit Go Go.Sort Ba Lx
theorem zm9 (D:Dp) (B d:Nat) (h:FnOk 80 (orL D) B d) (w:World) (C:Nat) (s:Ps) (hp:PAt w B d s) (hc:Box w C [.pointer (some ⟨B,0,none⟩)]) (hcb:C≠B) :
 Calls Tryz.prog 181 #[.pointer (some ⟨C,0,none⟩)] w (ExTo w B d (zb9 (orL D) s).1 (zb9 (orL D) s).2):=by
 have hlt:=hp.lt;have hcl:=hc.lt;have bw:Below w.heap.size w (w.alloc (.cells zzA 27)):=(Below.refl _ w).alloc (yG _) _;have R0:=Box.new w zzL 27;have C0:=hc.alloc (.cells zzA 27);have HZ:Hid (w.heap.size+1≤(w.alloc (.cells zzA 27)).heap.size):=by show _≤_;simp
 have HO:=hid h;have HP0:=hid (hp.below bw);have c0:=C0.cl 0 _ rfl;have HE:Hid (zb9 (orL D) s=((orL D (wantP [40] s)).1,wantP [41] (orL D (wantP [40] s)).2)):=by show zb9 _ _=_;rfl
 clear h hp hc;go_enter func181,ntmps181
 go_wp2_with fail
 generalize w.alloc (.cells zzA 27)=W0 at *
 refine (zar s [40] W0 B d HP0.out).mono ?_;rintro e w1 ⟨rfl,hK1,hP1⟩;have HP1:=hid hP1;have C1:=C0.kept hK1 (by show ¬ C=B;omega);have c1:=C1.cl 0 _ rfl;have R1:=R0.kept hK1 (by show ¬ w.heap.size=B;omega);have hz1:=hK1.size;clear c0 hP1;go_wp2_with fail
 refine (HO.out _ _ HP1.out).mono ?_;rintro e w2 ⟨ao,cp,rfl,hA,hK2,hP2⟩;have HP2:=hid hP2;have C2:=(C1.kept hK2 (by show ¬ C=B;omega)).alloc (.cells #[.int .i64 (orL D (wantP [40] s)).1.k,.string ⟨(orL D (wantP [40] s)).1.nm.toArray⟩,.int .i64 (orL D (wantP [40] s)).1.v.k,.int .i64 (orL D (wantP [40] s)).1.v.n,.string ⟨(orL D (wantP [40] s)).1.v.t.toArray⟩,.string ⟨(orL D (wantP [40] s)).1.op.toArray⟩,.slice ao (orL D (wantP [40] s)).1.xs.length cp] 27);have R2:=(R1.kept hK2 (by show ¬ w.heap.size=B;omega)).alloc (.cells #[.int .i64 (orL D (wantP [40] s)).1.k,.string ⟨(orL D (wantP [40] s)).1.nm.toArray⟩,.int .i64 (orL D (wantP [40] s)).1.v.k,.int .i64 (orL D (wantP [40] s)).1.v.n,.string ⟨(orL D (wantP [40] s)).1.v.t.toArray⟩,.string ⟨(orL D (wantP [40] s)).1.op.toArray⟩,.slice ao (orL D (wantP [40] s)).1.xs.length cp] 27)
 have X2:=Box.new w2 [.int .i64 (orL D (wantP [40] s)).1.k,.string ⟨(orL D (wantP [40] s)).1.nm.toArray⟩,.int .i64 (orL D (wantP [40] s)).1.v.k,.int .i64 (orL D (wantP [40] s)).1.v.n,.string ⟨(orL D (wantP [40] s)).1.v.t.toArray⟩,.string ⟨(orL D (wantP [40] s)).1.op.toArray⟩,.slice ao (orL D (wantP [40] s)).1.xs.length cp] 27;have bw3:Below w2.heap.size w2 (w2.alloc (.cells #[.int .i64 (orL D (wantP [40] s)).1.k,.string ⟨(orL D (wantP [40] s)).1.nm.toArray⟩,.int .i64 (orL D (wantP [40] s)).1.v.k,.int .i64 (orL D (wantP [40] s)).1.v.n,.string ⟨(orL D (wantP [40] s)).1.v.t.toArray⟩,.string ⟨(orL D (wantP [40] s)).1.op.toArray⟩,.slice ao (orL D (wantP [40] s)).1.xs.length cp] 27)):=(Below.refl _ w2).alloc (yG _) _;have P3:=HP2.out.below bw3;have HP3:=hid P3
 have A3:=hid (hA.both (Kept.of_below (S:=fun _=>False) bw3) (fun _ _ _ h=>h) (ok':=fun b=>w.heap.size<b∧b≠w2.heap.size) (fun b hb hb2=>⟨by have:=HZ.out;omega,by omega⟩));have KW3:=hid ((((Kept.of_below bw).trans hK1).trans hK2).behind bw3);have hz2:=hK2.size;have c2:=C2.cl 0 _ rfl;have hRT:w.heap.size<w2.heap.size:=by have:=HZ.out;omega
 have hBT:B<w2.heap.size:=by omega
 clear c1 hP2 hA hK1 hK2 P3 R0 R1 C0 C1;go_wp2_with fail
 generalize w2.alloc (.cells #[.int .i64 (orL D (wantP [40] s)).1.k,.string ⟨(orL D (wantP [40] s)).1.nm.toArray⟩,.int .i64 (orL D (wantP [40] s)).1.v.k,.int .i64 (orL D (wantP [40] s)).1.v.n,.string ⟨(orL D (wantP [40] s)).1.v.t.toArray⟩,.string ⟨(orL D (wantP [40] s)).1.op.toArray⟩,.slice ao (orL D (wantP [40] s)).1.xs.length cp] 27)=W3 at *
 refine (zar (orL D (wantP [40] s)).2 [41] W3 B d HP3.out).mono ?_;rintro e w4 ⟨rfl,hK4,hP4⟩;have R4:=R2.kept hK4 (by show ¬ w.heap.size=B;omega);have X4:=X2.kept hK4 (by show ¬ w2.heap.size=B;omega);obtain ⟨y0,y1,y2,y3,y4,y5,y6⟩:=X4.seven;obtain ⟨z0,z1,z2,z3,z4,z5,z6⟩:=(R4).seven;obtain ⟨f0,f1,f2,f3,f4,f5,f6⟩:=(R4).free7;go_wp2_with fail
 have SP:=(R4).setN (vs:=[.int .i64 (orL D (wantP [40] s)).1.k,.string ⟨(orL D (wantP [40] s)).1.nm.toArray⟩,.int .i64 (orL D (wantP [40] s)).1.v.k,.int .i64 (orL D (wantP [40] s)).1.v.n,.string ⟨(orL D (wantP [40] s)).1.v.t.toArray⟩,.string ⟨(orL D (wantP [40] s)).1.op.toArray⟩,.slice ao (orL D (wantP [40] s)).1.xs.length cp]) rfl;have K9:=Kept.setN (S:=fun b=>b=w.heap.size) (B:=w.heap.size) (.inl rfl) [.int .i64 (orL D (wantP [40] s)).1.k,.string ⟨(orL D (wantP [40] s)).1.nm.toArray⟩,.int .i64 (orL D (wantP [40] s)).1.v.k,.int .i64 (orL D (wantP [40] s)).1.v.n,.string ⟨(orL D (wantP [40] s)).1.v.t.toArray⟩,.string ⟨(orL D (wantP [40] s)).1.op.toArray⟩,.slice ao (orL D (wantP [40] s)).1.xs.length cp] 0 (Kept.refl _ w4);dsimp only[setN]at SP K9;obtain ⟨p0,p1,p2,p3,p4,p5,p6⟩:=SP.seven
 refine bodyPost_ret (by simp[results,results181,go_sem,p0,p1,p2,p3,p4,p5,p6];try rfl) rfl ?_;rw[HE.out];exact ⟨_,_,rfl,(A3.out.kept hK4 (fun b _ hb e=>by have e':b=B:=e;omega)).both K9 (fun b _ hb e=>by have e':b=w.heap.size:=e;omega) (fun b _ hb=>by omega),(KW3.out.trans hK4).then K9 (fun k hk e=>by have e':k=w.heap.size:=e;omega),(hP4).apart K9 (by omega)⟩
theorem zto:(Tryz.prog.info? 27).map (fun i=>(i.zero,i.size,i.bytes))=some (some (.agg zzA),7,96):=by kernel_rfl
def ArgI (w0:World) (base A C B d:Nat) (off:Nat) (W:World) (acc:List Ex) (s:Ps):Prop :=
 acc.length≤s.i+off∧PAt W B d s∧∃ v cells,GatS w0 base A C B 27 7 W [v] 0 v (acc.map exD) cells
theorem zfS {w0 W:World} {base A C B d g n cap:Nat} {acc:List Ex} {x:Ex} {s s':Ps} {cells:List (List Value)} (ha:acc.length≤s.i) (hg:s.i≤s'.i) (h:GatS w0 base A C B 27 7 W [.slice (some ⟨g,0,none⟩) n cap] 0 (.slice (some ⟨g,0,none⟩) n cap) (acc.map exD++[exD x]) cells∧PAt W B d s'):ArgI w0 base A C B d 1 W (acc++[x]) s' :=
 ⟨by rw[yA];simp only[List.length_singleton];omega,h.2,_,_,by rw[List.map_append];exact h.1⟩
theorem zqw (D:Dp) (B d:Nat) (hG:GoesE D.dor) (hd:DpOk 80 D.dor B d) (w0:World) (base A C:Nat) (pg:GatP w0 base A C B) (hBA:B<A) (w:World) (acc:List Ex) (s:Ps) (h:ArgI w0 base A C B d 0 w acc s) :
 Calls Tryz.prog 182 #[.pointer (some ⟨A,0,none⟩),.pointer (some ⟨C,0,none⟩)] w fun e w'=>e=.returned (.tuple #[])∧ArgI w0 base A C B d 1 w' (argP D.dor acc s).1 (argP D.dor acc s).2:=by
 obtain ⟨i0,hi,hz0,hz1,hz2⟩:=info_parts zto;obtain ⟨hacc,hp,v,cells,hs⟩:=h;have htl:=hp.tl;have hil:=hp.il;obtain ⟨ao,cp,rfl⟩:=hs.own.form;rw[yC]at hs;have PG:=hid pg;have HD:=hid hd;have HAcc:Hid (acc.length≤s.i):=by show acc.length≤s.i;omega
 have hgoes:Hid (s.i≤(D.dor s).2.i):=(hG s).i;have hal:acc.length≤20000:=by omega
 have H0:=hs.drew pg;have P0:=hp.drew;clear hs hp hacc hG hd pg;go_enter func182,ntmps182
 refine zaa 7 (S:=fun W=>(W.cell? ⟨A,0,none⟩=some (.slice ao acc.length cp)∧W.cell? ⟨C,0,none⟩=some (.pointer (some ⟨B,0,none⟩)))) (by kernel_rfl) (by exact ⟨H0.cell,H0.ptr⟩) (fun zJ=>?_);generalize w.drew=W1 at *
 have H:=H0;have PP:=P0;clear H0 P0;refine tKm 0 ?_;refine tKm 1 ?_;refine tKm 2 ?_;refine tKm 3 ?_;refine tKm 5 ?_;refine rKs [4,6] ?_;refine zai.cons rfl (fun K hK=>?_) (zai.cons rfl (fun K hK=>?_) zai.nil)
 ·go_simp;go_at_call 79;refine (HD.out _ _ PP).mono ?_;rintro e wc ⟨ax,cx,rfl,hA2,hK2,hP2⟩;have Hn:=H.next PG.out hK2;try dsimp only
  refine hK.out _ _ ?_ (fun zH=>?_)
  ·exact ⟨Hn.cell,Hn.ptr⟩
  replace zJ:=zH;clear hK K;have XA:=hid (hA2.weak (ok':=fun b=>base≤b∧(Value.slice ao acc.length cp).ownBlock≠some b) (fun b _ hb=>⟨yH H.le hb,fun e=>by have:=(H.own.lt b e).2;omega⟩));have PPn:=hP2;clear hA2 hP2;clear H;have H:=Hn;clear Hn;clear PP;have PP:=PPn;clear PPn;refine rK1 6 fun K hK=>?_
  go_simp;refine hK.out _ _ ?_ (fun zH=>?_)
  ·exact ⟨(H.alloc PG.out (.cells zzA 27)).cell,(H.alloc PG.out (.cells zzA 27)).ptr⟩
  replace zJ:=zH;clear hK K;have Hn:=H.alloc PG.out (.cells zzA 27);have ZB:=Box.new wc zzL 27;have PPn:=PP.below ((Below.refl _ wc).alloc (yG _) (.cells zzA 27));have XAn:=hid (XA.out.kept (S:=fun _=>False) (Kept.of_below ((Below.refl _ wc).alloc (yG _) (.cells zzA 27))) (fun _ _ _ h=>h));have hgb:=H.le;clear H;have H:=Hn;clear Hn;clear PP;have PP:=PPn;clear PPn;clear XA;have XA:=XAn;clear XAn
  obtain ⟨gx,hgx⟩:∃ gx,wc.heap.size=gx:=⟨_,rfl⟩;rw[hgx]at ZB hgb;try rw[hgx]
  generalize wc.alloc (.cells zzA 27)=W3 at *
  clear hgx;refine rKl 7 fun K hK=>?_
  have XR:=zbC XA.out;have ZR:Row W3 (fun b=>base≤b∧(Value.slice ao acc.length cp).ownBlock≠some b) (exD zEx) zzL:=zbC (x:=zEx) (zaN _ _);refine zq1 (.tmp 2) (.tmp 8) 25 27 rfl underlying25 hi hz0 hz1 hz2 rfl (by decide) (by decide) base _ (acc.map exD) cells (exD zEx) zzL gx H.own (zbk _) ZR rfl rfl (fun j u hj=>ZB.cl j u hj) (by rw[yC];omega) H.le (fun v1 w4 ho1 hg1 hd1=>?_);try dsimp only
  refine hK.out _ _ ?_;clear hK K;obtain ⟨hA4,hC4,hK4,hle4,hk4⟩:=H.appended PG.out ho1 hg1;have PPn:=PP.own PG.out.b hk4;obtain ⟨g,cap1,rfl,hcap,hcm,hgb1,hgl1⟩:=ho1.sh;rw[yC]at hcap;have hgE:Kept (fun b=>(Value.slice ao acc.length cp).ownBlock=some b) W3 w4:=(Kept.refl _ W3).grown hg1 (fun b hb=>.inl hb);have XRn:=hid (XR.both hgE (fun b _ hb e=>hb.2 e) (fun b hb ho=>(⟨ho.1,fun e=>by rcases hd1 with hd1|⟨c,hd1,hd2⟩;exact ho.2 (by rw[← hd1,← e];rfl);have:=Option.some.inj hd1;have:g=c:=this;omega⟩:base≤b∧g≠b)));have hcl:cells.length=acc.length:=by have:=H.own.len;rw[yC]at this;exact this
  have hml:acc.length=(acc.map exD).length:=(yC _).symm;have hlst:(cells++[zzL])[acc.length]?=some zzL:=by rw[← hcl,List.getElem?_append_right (yG _),Nat.sub_self];rfl
  have z0:=ho1.at hlst (j:=0) rfl;have z1:=ho1.at hlst (j:=1) rfl;have z2:=ho1.at hlst (j:=2) rfl;have z3:=ho1.at hlst (j:=3) rfl;have z4:=ho1.at hlst (j:=4) rfl;have z5:=ho1.at hlst (j:=5) rfl;have z6:=ho1.at hlst (j:=6) rfl;rw[Nat.add_zero]at z0;have f0:=ho1.free (acc.length*7+0);have f1:=ho1.free (acc.length*7+1);have f2:=ho1.free (acc.length*7+2);have f3:=ho1.free (acc.length*7+3);have f4:=ho1.free (acc.length*7+4);have f5:=ho1.free (acc.length*7+5);have f6:=ho1.free (acc.length*7+6);rw[Nat.add_zero]at f0;have a0:=hA4.cl 0 _ rfl;have hgA:g≠A:=by have:=PG.out.a;omega
  have af0:=hA4.fr 0 (by simp);have hfin:=GatS.done (m:=acc.length) PG.out hml H.own.len hA4 (off:=0) rfl hC4 ho1 hK4 hle4 (zbk _) XRn.out PPn hBA;obtain ⟨w5,hw5⟩:∃ w5,setN w4 g (acc.length*7) [.int .i64 (D.dor s).1.k,.string ⟨(D.dor s).1.nm.toArray⟩,.int .i64 (D.dor s).1.v.k,.int .i64 (D.dor s).1.v.n,.string ⟨(D.dor s).1.v.t.toArray⟩,.string ⟨(D.dor s).1.op.toArray⟩,.slice ax (D.dor s).1.xs.length cx]=w5:=⟨_,rfl⟩;obtain ⟨w6,hw6⟩:∃ w6,w4.setCell ⟨A,0,none⟩ (.slice (some ⟨g,0,none⟩) (acc.length+1) cap1)=w6:=⟨_,rfl⟩;simp only[yA,yC,List.length_singleton]at hfin;rw[hw5,hw6]at hfin
  have a5:w5.cell? ⟨A,0,none⟩=some (.slice ao acc.length cp):=by rw[← hw5];exact (hA4.otherN hgA [.int .i64 (D.dor s).1.k,.string ⟨(D.dor s).1.nm.toArray⟩,.int .i64 (D.dor s).1.v.k,.int .i64 (D.dor s).1.v.n,.string ⟨(D.dor s).1.v.t.toArray⟩,.string ⟨(D.dor s).1.op.toArray⟩,.slice ax (D.dor s).1.xs.length cx] _).cl 0 _ rfl
  have af5:w5.frozen? ⟨A,0,none⟩=false:=by rw[← hw5];exact (hA4.otherN hgA [.int .i64 (D.dor s).1.k,.string ⟨(D.dor s).1.nm.toArray⟩,.int .i64 (D.dor s).1.v.k,.int .i64 (D.dor s).1.v.n,.string ⟨(D.dor s).1.v.t.toArray⟩,.string ⟨(D.dor s).1.op.toArray⟩,.slice ax (D.dor s).1.xs.length cx] _).fr 0 (by simp)
  have k6:Kept (fun b=>b=A) w4 w6:=by rw[← hw6];exact (Kept.refl (fun b=>b=A) w4).set ⟨A,0,none⟩ (.inl rfl) _
  have y0:=(kcell k6 hgl1 (by show ¬ g=A;exact hgA)).trans z0;have y1:=(kcell k6 hgl1 (by show ¬ g=A;exact hgA)).trans z1;have y2:=(kcell k6 hgl1 (by show ¬ g=A;exact hgA)).trans z2;have y3:=(kcell k6 hgl1 (by show ¬ g=A;exact hgA)).trans z3;have y4:=(kcell k6 hgl1 (by show ¬ g=A;exact hgA)).trans z4;have y5:=(kcell k6 hgl1 (by show ¬ g=A;exact hgA)).trans z5;have y6:=(kcell k6 hgl1 (by show ¬ g=A;exact hgA)).trans z6;have u0:=(zce k6 hgl1 (by show ¬ g=A;exact hgA)).trans f0;have u1:=(zce k6 hgl1 (by show ¬ g=A;exact hgA)).trans f1;have u2:=(zce k6 hgl1 (by show ¬ g=A;exact hgA)).trans f2;have u3:=(zce k6 hgl1 (by show ¬ g=A;exact hgA)).trans f3;have u4:=(zce k6 hgl1 (by show ¬ g=A;exact hgA)).trans f4;have u5:=(zce k6 hgl1 (by show ¬ g=A;exact hgA)).trans f5;have u6:=(zce k6 hgl1 (by show ¬ g=A;exact hgA)).trans f6;have HFIN:=hid hfin
  have HW5:=hid hw5;have HW6:=hid hw6;clear ho1 hcl hml hlst hd1 hgE ZR XR XA XRn hA4 hC4 hK4 H ZB zJ hfin hw5 hw6 k6 hg1 hk4;clear PP PPn;simp only[yC];have hlt0:(acc.length:Int)<(acc.length:Int)+1:=by omega
  try simp only[Array.reduceGetElem,zs]
  refine tkY 8 rfl (by kernel_rfl) (Or.inl ⟨by rfl,by intro w hSw;clear hSw;go_simp<;>with_reducible rfl⟩) ?_;refine rKs [9,10] ?_;refine zai.last rfl (by kernel_rfl) (fun K hK=>?_) (zai.last rfl (by kernel_rfl) (fun K hK=>?_) zai.nil)
  ·go_simp;try dsimp only
   refine hK.out _ _ ?_;clear hK K;rw[show (((((((w4.setCell ⟨g,acc.length*7,none⟩ (.int .i64 (D.dor s).1.k)).setCell ⟨g,acc.length*7+1,none⟩ (.string ⟨(D.dor s).1.nm.toArray⟩)).setCell ⟨g,acc.length*7+2,none⟩ (.int .i64 (D.dor s).1.v.k)).setCell ⟨g,acc.length*7+3,none⟩ (.int .i64 (D.dor s).1.v.n)).setCell ⟨g,acc.length*7+4,none⟩ (.string ⟨(D.dor s).1.v.t.toArray⟩)).setCell ⟨g,acc.length*7+5,none⟩ (.string ⟨(D.dor s).1.op.toArray⟩)).setCell ⟨g,acc.length*7+6,none⟩ (.slice ax (D.dor s).1.xs.length cx))=w5 from HW5.out];clear z0 f0 y0 u0 z1 f1 y1 u1 z2 f2 y2 u2 z3 f3 y3 u3 z4 f4 y4 u4 z5 f5 y5 u5 z6 f6 y6 u6 a0 af0;refine rKl 10 fun K hK=>?_
   go_simp;try dsimp only
   refine hK.out _ _ ?_;clear hK K;refine rKd ?_;go_wp2_with fail
   go_end0
   exact ⟨rfl,zfS HAcc.out hgoes.out HFIN.out.1⟩
  ·go_simp;try dsimp only
   refine hK.out _ _ ?_;clear hK K;rw[show w4.setCell ⟨A,0,none⟩ (.slice (some ⟨g,0,none⟩) (acc.length+1) cap1)=w6 from HW6.out];clear z0 f0 z1 f1 z2 f2 z3 f3 z4 f4 z5 f5 z6 f6 a0 af0 a5 af5;refine rKl 9 fun K hK=>?_
   go_simp;try dsimp only
   refine hK.out _ _ ?_;clear hK K;refine rKd ?_;go_wp2_with fail
   go_end0
   exact ⟨rfl,zfS HAcc.out hgoes.out HFIN.out.2⟩
 ·go_simp;refine hK.out _ _ ?_ (fun zH=>?_)
  ·exact ⟨(H.alloc PG.out (.cells zzA 27)).cell,(H.alloc PG.out (.cells zzA 27)).ptr⟩
  replace zJ:=zH;clear hK K;have Hn:=H.alloc PG.out (.cells zzA 27);have ZB:=Box.new W1 zzL 27;have PPn:=PP.below ((Below.refl _ W1).alloc (yG _) (.cells zzA 27));have hgb:=H.le;clear H;have H:=Hn;clear Hn;clear PP;have PP:=PPn;clear PPn;obtain ⟨gx,hgx⟩:∃ gx,W1.heap.size=gx:=⟨_,rfl⟩;rw[hgx]at ZB hgb;try rw[hgx]
  generalize W1.alloc (.cells zzA 27)=W3 at *
  clear hgx;refine rK1 4 fun K hK=>?_
  go_simp;go_at_call 79;refine (HD.out _ _ PP).mono ?_;rintro e wc ⟨ax,cx,rfl,hA2,hK2,hP2⟩;have Hn:=H.next PG.out hK2;try dsimp only
  refine hK.out _ _ ?_ (fun zH=>?_)
  ·exact ⟨Hn.cell,Hn.ptr⟩
  replace zJ:=zH;clear hK K;have ZBn:=ZB.kept hK2 (by show ¬ gx=B;have:=PG.out.b;omega);have XA:=hid (hA2.weak (ok':=fun b=>base≤b∧(Value.slice ao acc.length cp).ownBlock≠some b) (fun b _ hb=>⟨yH H.le hb,fun e=>by have:=(H.own.lt b e).2;omega⟩));have PPn:=hP2;clear hA2 hP2;clear H;have H:=Hn;clear Hn;clear PP;have PP:=PPn;clear PPn;clear ZB;have ZB:=ZBn;clear ZBn;refine rKl 7 fun K hK=>?_
  have XR:=zbC XA.out;have ZR:Row wc (fun b=>base≤b∧(Value.slice ao acc.length cp).ownBlock≠some b) (exD zEx) zzL:=zbC (x:=zEx) (zaN _ _);refine zq1 (.tmp 2) (.tmp 8) 25 27 rfl underlying25 hi hz0 hz1 hz2 rfl (by decide) (by decide) base _ (acc.map exD) cells (exD zEx) zzL gx H.own (zbk _) ZR rfl rfl (fun j u hj=>ZB.cl j u hj) (by rw[yC];omega) H.le (fun v1 w4 ho1 hg1 hd1=>?_);try dsimp only
  refine hK.out _ _ ?_;clear hK K;obtain ⟨hA4,hC4,hK4,hle4,hk4⟩:=H.appended PG.out ho1 hg1;have PPn:=PP.own PG.out.b hk4;obtain ⟨g,cap1,rfl,hcap,hcm,hgb1,hgl1⟩:=ho1.sh;rw[yC]at hcap;have hgE:Kept (fun b=>(Value.slice ao acc.length cp).ownBlock=some b) wc w4:=(Kept.refl _ wc).grown hg1 (fun b hb=>.inl hb);have XRn:=hid (XR.both hgE (fun b _ hb e=>hb.2 e) (fun b hb ho=>(⟨ho.1,fun e=>by rcases hd1 with hd1|⟨c,hd1,hd2⟩;exact ho.2 (by rw[← hd1,← e];rfl);have:=Option.some.inj hd1;have:g=c:=this;omega⟩:base≤b∧g≠b)));have hcl:cells.length=acc.length:=by have:=H.own.len;rw[yC]at this;exact this
  have hml:acc.length=(acc.map exD).length:=(yC _).symm;have hlst:(cells++[zzL])[acc.length]?=some zzL:=by rw[← hcl,List.getElem?_append_right (yG _),Nat.sub_self];rfl
  have z0:=ho1.at hlst (j:=0) rfl;have z1:=ho1.at hlst (j:=1) rfl;have z2:=ho1.at hlst (j:=2) rfl;have z3:=ho1.at hlst (j:=3) rfl;have z4:=ho1.at hlst (j:=4) rfl;have z5:=ho1.at hlst (j:=5) rfl;have z6:=ho1.at hlst (j:=6) rfl;rw[Nat.add_zero]at z0;have f0:=ho1.free (acc.length*7+0);have f1:=ho1.free (acc.length*7+1);have f2:=ho1.free (acc.length*7+2);have f3:=ho1.free (acc.length*7+3);have f4:=ho1.free (acc.length*7+4);have f5:=ho1.free (acc.length*7+5);have f6:=ho1.free (acc.length*7+6);rw[Nat.add_zero]at f0;have a0:=hA4.cl 0 _ rfl;have hgA:g≠A:=by have:=PG.out.a;omega
  have af0:=hA4.fr 0 (by simp);have hfin:=GatS.done (m:=acc.length) PG.out hml H.own.len hA4 (off:=0) rfl hC4 ho1 hK4 hle4 (zbk _) XRn.out PPn hBA;obtain ⟨w5,hw5⟩:∃ w5,setN w4 g (acc.length*7) [.int .i64 (D.dor s).1.k,.string ⟨(D.dor s).1.nm.toArray⟩,.int .i64 (D.dor s).1.v.k,.int .i64 (D.dor s).1.v.n,.string ⟨(D.dor s).1.v.t.toArray⟩,.string ⟨(D.dor s).1.op.toArray⟩,.slice ax (D.dor s).1.xs.length cx]=w5:=⟨_,rfl⟩;obtain ⟨w6,hw6⟩:∃ w6,w4.setCell ⟨A,0,none⟩ (.slice (some ⟨g,0,none⟩) (acc.length+1) cap1)=w6:=⟨_,rfl⟩;simp only[yA,yC,List.length_singleton]at hfin;rw[hw5,hw6]at hfin
  have a5:w5.cell? ⟨A,0,none⟩=some (.slice ao acc.length cp):=by rw[← hw5];exact (hA4.otherN hgA [.int .i64 (D.dor s).1.k,.string ⟨(D.dor s).1.nm.toArray⟩,.int .i64 (D.dor s).1.v.k,.int .i64 (D.dor s).1.v.n,.string ⟨(D.dor s).1.v.t.toArray⟩,.string ⟨(D.dor s).1.op.toArray⟩,.slice ax (D.dor s).1.xs.length cx] _).cl 0 _ rfl
  have af5:w5.frozen? ⟨A,0,none⟩=false:=by rw[← hw5];exact (hA4.otherN hgA [.int .i64 (D.dor s).1.k,.string ⟨(D.dor s).1.nm.toArray⟩,.int .i64 (D.dor s).1.v.k,.int .i64 (D.dor s).1.v.n,.string ⟨(D.dor s).1.v.t.toArray⟩,.string ⟨(D.dor s).1.op.toArray⟩,.slice ax (D.dor s).1.xs.length cx] _).fr 0 (by simp)
  have k6:Kept (fun b=>b=A) w4 w6:=by rw[← hw6];exact (Kept.refl (fun b=>b=A) w4).set ⟨A,0,none⟩ (.inl rfl) _
  have y0:=(kcell k6 hgl1 (by show ¬ g=A;exact hgA)).trans z0;have y1:=(kcell k6 hgl1 (by show ¬ g=A;exact hgA)).trans z1;have y2:=(kcell k6 hgl1 (by show ¬ g=A;exact hgA)).trans z2;have y3:=(kcell k6 hgl1 (by show ¬ g=A;exact hgA)).trans z3;have y4:=(kcell k6 hgl1 (by show ¬ g=A;exact hgA)).trans z4;have y5:=(kcell k6 hgl1 (by show ¬ g=A;exact hgA)).trans z5;have y6:=(kcell k6 hgl1 (by show ¬ g=A;exact hgA)).trans z6;have u0:=(zce k6 hgl1 (by show ¬ g=A;exact hgA)).trans f0;have u1:=(zce k6 hgl1 (by show ¬ g=A;exact hgA)).trans f1;have u2:=(zce k6 hgl1 (by show ¬ g=A;exact hgA)).trans f2;have u3:=(zce k6 hgl1 (by show ¬ g=A;exact hgA)).trans f3;have u4:=(zce k6 hgl1 (by show ¬ g=A;exact hgA)).trans f4;have u5:=(zce k6 hgl1 (by show ¬ g=A;exact hgA)).trans f5;have u6:=(zce k6 hgl1 (by show ¬ g=A;exact hgA)).trans f6;have HFIN:=hid hfin
  have HW5:=hid hw5;have HW6:=hid hw6;clear ho1 hcl hml hlst hd1 hgE ZR XR XA XRn hA4 hC4 hK4 H ZB zJ hfin hw5 hw6 k6 hg1 hk4;clear PP PPn;simp only[yC];have hlt0:(acc.length:Int)<(acc.length:Int)+1:=by omega
  try simp only[Array.reduceGetElem,zs]
  refine tkY 8 rfl (by kernel_rfl) (Or.inl ⟨by rfl,by intro w hSw;clear hSw;go_simp<;>with_reducible rfl⟩) ?_;refine rKs [9,10] ?_;refine zai.last rfl (by kernel_rfl) (fun K hK=>?_) (zai.last rfl (by kernel_rfl) (fun K hK=>?_) zai.nil)
  ·go_simp;try dsimp only
   refine hK.out _ _ ?_;clear hK K;rw[show (((((((w4.setCell ⟨g,acc.length*7,none⟩ (.int .i64 (D.dor s).1.k)).setCell ⟨g,acc.length*7+1,none⟩ (.string ⟨(D.dor s).1.nm.toArray⟩)).setCell ⟨g,acc.length*7+2,none⟩ (.int .i64 (D.dor s).1.v.k)).setCell ⟨g,acc.length*7+3,none⟩ (.int .i64 (D.dor s).1.v.n)).setCell ⟨g,acc.length*7+4,none⟩ (.string ⟨(D.dor s).1.v.t.toArray⟩)).setCell ⟨g,acc.length*7+5,none⟩ (.string ⟨(D.dor s).1.op.toArray⟩)).setCell ⟨g,acc.length*7+6,none⟩ (.slice ax (D.dor s).1.xs.length cx))=w5 from HW5.out];clear z0 f0 y0 u0 z1 f1 y1 u1 z2 f2 y2 u2 z3 f3 y3 u3 z4 f4 y4 u4 z5 f5 y5 u5 z6 f6 y6 u6 a0 af0;refine rKl 10 fun K hK=>?_
   go_simp;try dsimp only
   refine hK.out _ _ ?_;clear hK K;refine rKd ?_;go_wp2_with fail
   go_end0
   exact ⟨rfl,zfS HAcc.out hgoes.out HFIN.out.1⟩
  ·go_simp;try dsimp only
   refine hK.out _ _ ?_;clear hK K;rw[show w4.setCell ⟨A,0,none⟩ (.slice (some ⟨g,0,none⟩) (acc.length+1) cap1)=w6 from HW6.out];clear z0 f0 z1 f1 z2 f2 z3 f3 z4 f4 z5 f5 z6 f6 a0 af0 a5 af5;refine rKl 9 fun K hK=>?_
   go_simp;try dsimp only
   refine hK.out _ _ ?_;clear hK K;refine rKd ?_;go_wp2_with fail
   go_end0
   exact ⟨rfl,zfS HAcc.out hgoes.out HFIN.out.2⟩
def DpPar (f:PE) (B d:Nat):Prop:=∀ W C s,PAt W B d s→Box W C [.pointer (some ⟨B,0,none⟩)]→C≠B→Calls Tryz.prog 79 #[.pointer (some ⟨B,0,none⟩),.func (.func 181) #[] #[.pointer (some ⟨C,0,none⟩)]] W (ExTo W B d (f s).1 (f s).2)
theorem zpG (B:Nat):DpPar zdR B 32:=fun W C s h _ _=>zhh _ _ _ s W B h
theorem zpH {D:Dp} {B d:Nat} (hd:d<32) (h:FnOk 80 (orL D) B (d+1)):DpPar (zb9 (orL D)) B d:=fun W C s hp hc hcb =>
 zgv _ (enters_of func181 (by kernel_rfl) rfl) _ _ s _ _ W B d hd hp fun W' hK hp'=>zm9 D B (d+1) h W' C s hp' (hc.kept hK hcb) hcb
theorem zjF (D:Dp) (B d:Nat) (w:World) (s:Ps) (hp:PAt w B d s) (hk:(peekP s).k=2):Calls Tryz.prog 180 #[.pointer (some ⟨B,0,none⟩)] w (ExTo w B d (prL D s).1 (prL D s).2):=by
 have hlt:=hp.lt;have bw:Below w.heap.size w ((w.alloc (.cells #[.pointer (some ⟨B,0,none⟩)] 112)).alloc (.cells zzA 27)):=((Below.refl _ w).alloc (yG _) _).alloc (by simp) _;have C0:=(Box.new w [.pointer (some ⟨B,0,none⟩)] 112).alloc (.cells zzA 27);have R0:Box ((w.alloc (.cells #[.pointer (some ⟨B,0,none⟩)] 112)).alloc (.cells zzA 27)) (w.heap.size+1) zzL:=by
  have:=Box.new (w.alloc (.cells #[.pointer (some ⟨B,0,none⟩)] 112)) zzL 27;rw[World.size_alloc]at this;exact this
 have hz0:w.heap.size+2≤((w.alloc (.cells #[.pointer (some ⟨B,0,none⟩)] 112)).alloc (.cells zzA 27)).heap.size:=by simp
 obtain ⟨t,ht⟩:∃ t,peekP s=t:=⟨_,rfl⟩;obtain ⟨Y,hY⟩:∃ Y:ByteArray,(⟨t.t.toArray⟩:ByteArray)=Y:=⟨_,rfl⟩;have HPK:=hid (fun W hW=>zb0 s t Y ht hY W B d hW);have hbd:0≤t.n∧t.n≤9223372036854775807:=by rw[← ht];exact zc1 (s:=s) hp.2.2.2.1
 rw[ht]at hk;have hi2:=(zbN (s:=s) (by rw[ht,hk];decide)).2.1;obtain ⟨n0,hn0⟩:∃ n0,t.n=n0:=⟨_,rfl⟩;rw[hn0]at hbd HPK;rw[hk]at HPK;have HE:Hid (prL D s=((zam ⟨1,n0,[]⟩),advP s)):=by
  show primP _ _ s=_
  unfold primP;rw[if_pos (by rw[ht];exact hk),ht,hn0]
 have HCO:Hid (∀ W,Calls Tryz.prog 26 #[.agg #[.int .i64 1,.int .i64 n0,.string ⟨#[]⟩]] W (ze2 W (fun _=>False) (zam ⟨1,n0,[]⟩))):=fun W=>zd0 1 n0 [] W _
 obtain ⟨ii,hii⟩:∃ ii,s.i=ii:=⟨_,rfl⟩;have hil2:ii≤20000:=by rw[← hii];have:=hp.il;have:=hp.tl;omega
 have HII:=hid hii;have HI2:=hid hi2;have HP0:=hid (hp.below bw);clear ht hY hk hn0 hi2 hii hp;go_enter func180,ntmps180
 go_wp2_with fail
 generalize ((w.alloc (.cells #[.pointer (some ⟨B,0,none⟩)] 112)).alloc (.cells zzA 27))=W0 at *
 have c0:=C0.cl 0 _ rfl;refine (HPK.out _ HP0.out).mono ?_;rintro e w1 ⟨rfl,hb1⟩;have bw2:=hb1.alloc hb1.size (.cells #[.int .i64 2,.string Y,.int .i64 n0,.int .i64 (t.p:Int)] 169);have X2:=Box.new w1 [.int .i64 2,.string Y,.int .i64 n0,.int .i64 (t.p:Int)] 169;have C2:=(C0.next hb1).alloc (.cells #[.int .i64 2,.string Y,.int .i64 n0,.int .i64 (t.p:Int)] 169);have R2:=(R0.next hb1).alloc (.cells #[.int .i64 2,.string Y,.int .i64 n0,.int .i64 (t.p:Int)] 169);have HP2:=hid (HP0.out.below bw2);have KW2:=hid ((Kept.of_below (S:=fun b=>b=B) bw).behind bw2);have hz2:=bw2.size;have hz1:=hb1.size;have hRT:w.heap.size+1<w1.heap.size:=by omega
 clear C0 R0 hb1 bw c0 bw2;obtain ⟨T,hT⟩:∃ T,w1.heap.size=T:=⟨_,rfl⟩;rw[hT]at X2 hRT;have hTlt:=X2.lt;obtain ⟨R,hR⟩:∃ R,w.heap.size+1=R:=⟨_,rfl⟩;go_upto_region 3 with (fail)
 generalize w1.alloc (.cells #[.int .i64 2,.string Y,.int .i64 n0,.int .i64 (t.p:Int)] 169)=W2 at *
 try rw[hT]
 try rw[hR]
 have hRR:w.heap.size+1≤R:=by omega
 rw[hR]at R2 hRT;clear hT hR;have c2:=C2.cl 0 _ rfl;obtain ⟨_,_,_,_,sl,hbx,_⟩:=HP2.out;rw[HII.out]at hbx;obtain ⟨b0,b1,b2,b3,b4,b5,g1,g3,g4,g5⟩:=hbx.six;go_upto_region 4 with (fail)
 have X4:=X2.other (C:=B) (by omega) 1 (.int .i64 ((ii:Int)+1));have C4:=C2.other (C:=B) (by omega) 1 (.int .i64 ((ii:Int)+1));have R4:=R2.other (C:=B) (by omega) 1 (.int .i64 ((ii:Int)+1));have K4:=(Kept.refl (fun b=>b=B) W2).set ⟨B,1,none⟩ (.inl rfl) (.int .i64 ((ii:Int)+1));have P4:PAt (W2.setCell ⟨B,1,none⟩ (.int .i64 ((ii:Int)+1))) B d (advP s):=HP2.out.next HI2.out K4 (fun sl h=>by have:=h.put 1 (.int .i64 ((s.i:Int)+1));rw[HII.out]at this ⊢;exact this);have HP4:=hid P4;have KW4:=hid (KW2.out.trans K4);have hz4:W2.heap.size≤(W2.setCell ⟨B,1,none⟩ (.int .i64 ((ii:Int)+1))).heap.size:=K4.size;clear b0 b1 b2 b3 b4 b5 g1 g3 g4 g5 hbx X2 R2 C2 K4 P4;generalize W2.setCell ⟨B,1,none⟩ (.int .i64 ((ii:Int)+1))=W4 at *
 obtain ⟨x0,x1,x2,x3⟩:=X4.four';have c4:=C4.cl 0 _ rfl;go_wp2_with (first|(go_at_call 27;refine (Va.of_any n0 _).mono ?_;rintro e w5 ⟨rfl,hb5⟩)|(go_at_call 26;refine (HCO.out _).mono ?_;rintro e w6 ⟨ao,cp,rfl,hA6,hb6⟩;have R6:=(R4.next hb5).next hb6;obtain ⟨z0,z1,z2,z3,z4,z5,z6⟩:=(R6).seven;obtain ⟨f0,f1,f2,f3,f4,f5,f6⟩:=(R6).free7))
 have SP:=(R6).setN (vs:=[.int .i64 (zam ⟨1,n0,[]⟩).k,.string ⟨(zam ⟨1,n0,[]⟩).nm.toArray⟩,.int .i64 (zam ⟨1,n0,[]⟩).v.k,.int .i64 (zam ⟨1,n0,[]⟩).v.n,.string ⟨(zam ⟨1,n0,[]⟩).v.t.toArray⟩,.string ⟨(zam ⟨1,n0,[]⟩).op.toArray⟩,.slice ao (zam ⟨1,n0,[]⟩).xs.length cp]) rfl;have K9:=Kept.setN (S:=fun b=>b=R) (B:=R) (.inl rfl) [.int .i64 (zam ⟨1,n0,[]⟩).k,.string ⟨(zam ⟨1,n0,[]⟩).nm.toArray⟩,.int .i64 (zam ⟨1,n0,[]⟩).v.k,.int .i64 (zam ⟨1,n0,[]⟩).v.n,.string ⟨(zam ⟨1,n0,[]⟩).v.t.toArray⟩,.string ⟨(zam ⟨1,n0,[]⟩).op.toArray⟩,.slice ao (zam ⟨1,n0,[]⟩).xs.length cp] 0 (Kept.refl _ w6);dsimp only[setN]at SP K9;obtain ⟨p0,p1,p2,p3,p4,p5,p6⟩:=SP.seven;refine bodyPost_ret (by simp[results,results180,go_sem,p0,p1,p2,p3,p4,p5,p6];try rfl) rfl ?_;rw[HE.out]
 exact ⟨_,_,rfl,(hA6).both K9 (fun b _ hb e=>by have e':b=R:=e;rcases hb with hb|hb;exact hb.elim;have:=R4.lt;have:=hb5.size;omega) (fun b _ hb=>by rcases hb with hb|hb;exact hb.elim;have:=R4.lt;have:=hb5.size;omega),((KW4.out.behind hb5).behind hb6).then K9 (fun k hk e=>by have e':k=R:=e;omega),((HP4.out.below hb5).below hb6).apart K9 (by omega)⟩
theorem ziy (D:Dp) (B d:Nat) (w:World) (s:Ps) (hp:PAt w B d s) (hk:(peekP s).k=3):Calls Tryz.prog 180 #[.pointer (some ⟨B,0,none⟩)] w (ExTo w B d (prL D s).1 (prL D s).2):=by
 have hlt:=hp.lt;have bw:Below w.heap.size w ((w.alloc (.cells #[.pointer (some ⟨B,0,none⟩)] 112)).alloc (.cells zzA 27)):=((Below.refl _ w).alloc (yG _) _).alloc (by simp) _;have C0:=(Box.new w [.pointer (some ⟨B,0,none⟩)] 112).alloc (.cells zzA 27);have R0:Box ((w.alloc (.cells #[.pointer (some ⟨B,0,none⟩)] 112)).alloc (.cells zzA 27)) (w.heap.size+1) zzL:=by
  have:=Box.new (w.alloc (.cells #[.pointer (some ⟨B,0,none⟩)] 112)) zzL 27;rw[World.size_alloc]at this;exact this
 have hz0:w.heap.size+2≤((w.alloc (.cells #[.pointer (some ⟨B,0,none⟩)] 112)).alloc (.cells zzA 27)).heap.size:=by simp
 obtain ⟨t,ht⟩:∃ t,peekP s=t:=⟨_,rfl⟩;obtain ⟨Y,hY⟩:∃ Y:ByteArray,(⟨t.t.toArray⟩:ByteArray)=Y:=⟨_,rfl⟩;have HPK:=hid (fun W hW=>zb0 s t Y ht hY W B d hW);have hbd:0≤t.n∧t.n≤9223372036854775807:=by rw[← ht];exact zc1 (s:=s) hp.2.2.2.1
 rw[ht]at hk;have hi2:=(zbN (s:=s) (by rw[ht,hk];decide)).2.1;obtain ⟨n0,hn0⟩:∃ n0,t.n=n0:=⟨_,rfl⟩;rw[hn0]at hbd HPK;rw[hk]at HPK;have HE:Hid (prL D s=((zam ⟨2,0,t.t⟩),advP s)):=by
  show primP _ _ s=_
  unfold primP;rw[if_neg (by rw[ht,hk];decide),if_pos (by rw[ht];exact hk),ht]
 have HCO:Hid (∀ W,Calls Tryz.prog 26 #[.agg #[.int .i64 2,.int .i64 0,.string Y]] W (ze2 W (fun _=>False) (zam ⟨2,0,t.t⟩))):=fun W=>by rw[← hY];exact zd0 2 0 t.t W _
 obtain ⟨ii,hii⟩:∃ ii,s.i=ii:=⟨_,rfl⟩;have hil2:ii≤20000:=by rw[← hii];have:=hp.il;have:=hp.tl;omega
 have HII:=hid hii;have HI2:=hid hi2;have HP0:=hid (hp.below bw);clear ht hY hk hn0 hi2 hii hp;go_enter func180,ntmps180
 go_wp2_with fail
 generalize ((w.alloc (.cells #[.pointer (some ⟨B,0,none⟩)] 112)).alloc (.cells zzA 27))=W0 at *
 have c0:=C0.cl 0 _ rfl;refine (HPK.out _ HP0.out).mono ?_;rintro e w1 ⟨rfl,hb1⟩;have bw2:=hb1.alloc hb1.size (.cells #[.int .i64 3,.string Y,.int .i64 n0,.int .i64 (t.p:Int)] 169);have X2:=Box.new w1 [.int .i64 3,.string Y,.int .i64 n0,.int .i64 (t.p:Int)] 169;have C2:=(C0.next hb1).alloc (.cells #[.int .i64 3,.string Y,.int .i64 n0,.int .i64 (t.p:Int)] 169);have R2:=(R0.next hb1).alloc (.cells #[.int .i64 3,.string Y,.int .i64 n0,.int .i64 (t.p:Int)] 169);have HP2:=hid (HP0.out.below bw2);have KW2:=hid ((Kept.of_below (S:=fun b=>b=B) bw).behind bw2);have hz2:=bw2.size;have hz1:=hb1.size;have hRT:w.heap.size+1<w1.heap.size:=by omega
 clear C0 R0 hb1 bw c0 bw2;obtain ⟨T,hT⟩:∃ T,w1.heap.size=T:=⟨_,rfl⟩;rw[hT]at X2 hRT;have hTlt:=X2.lt;obtain ⟨R,hR⟩:∃ R,w.heap.size+1=R:=⟨_,rfl⟩;go_upto_region 6 with (fail)
 generalize w1.alloc (.cells #[.int .i64 3,.string Y,.int .i64 n0,.int .i64 (t.p:Int)] 169)=W2 at *
 try rw[hT]
 try rw[hR]
 have hRR:w.heap.size+1≤R:=by omega
 rw[hR]at R2 hRT;clear hT hR;have c2:=C2.cl 0 _ rfl;obtain ⟨_,_,_,_,sl,hbx,_⟩:=HP2.out;rw[HII.out]at hbx;obtain ⟨b0,b1,b2,b3,b4,b5,g1,g3,g4,g5⟩:=hbx.six;go_upto_region 7 with (fail)
 have X4:=X2.other (C:=B) (by omega) 1 (.int .i64 ((ii:Int)+1));have C4:=C2.other (C:=B) (by omega) 1 (.int .i64 ((ii:Int)+1));have R4:=R2.other (C:=B) (by omega) 1 (.int .i64 ((ii:Int)+1));have K4:=(Kept.refl (fun b=>b=B) W2).set ⟨B,1,none⟩ (.inl rfl) (.int .i64 ((ii:Int)+1));have P4:PAt (W2.setCell ⟨B,1,none⟩ (.int .i64 ((ii:Int)+1))) B d (advP s):=HP2.out.next HI2.out K4 (fun sl h=>by have:=h.put 1 (.int .i64 ((s.i:Int)+1));rw[HII.out]at this ⊢;exact this);have HP4:=hid P4;have KW4:=hid (KW2.out.trans K4);have hz4:W2.heap.size≤(W2.setCell ⟨B,1,none⟩ (.int .i64 ((ii:Int)+1))).heap.size:=K4.size;clear b0 b1 b2 b3 b4 b5 g1 g3 g4 g5 hbx X2 R2 C2 K4 P4;generalize W2.setCell ⟨B,1,none⟩ (.int .i64 ((ii:Int)+1))=W4 at *
 obtain ⟨x0,x1,x2,x3⟩:=X4.four';have c4:=C4.cl 0 _ rfl;go_wp2_with (first|(go_at_call 37;refine (Va.text_any Y _).mono ?_;rintro e w5 ⟨rfl,hb5⟩)|(go_at_call 26;refine (HCO.out _).mono ?_;rintro e w6 ⟨ao,cp,rfl,hA6,hb6⟩;have R6:=(R4.next hb5).next hb6;obtain ⟨z0,z1,z2,z3,z4,z5,z6⟩:=(R6).seven;obtain ⟨f0,f1,f2,f3,f4,f5,f6⟩:=(R6).free7))
 have SP:=(R6).setN (vs:=[.int .i64 (zam ⟨2,0,t.t⟩).k,.string ⟨(zam ⟨2,0,t.t⟩).nm.toArray⟩,.int .i64 (zam ⟨2,0,t.t⟩).v.k,.int .i64 (zam ⟨2,0,t.t⟩).v.n,.string ⟨(zam ⟨2,0,t.t⟩).v.t.toArray⟩,.string ⟨(zam ⟨2,0,t.t⟩).op.toArray⟩,.slice ao (zam ⟨2,0,t.t⟩).xs.length cp]) rfl;have K9:=Kept.setN (S:=fun b=>b=R) (B:=R) (.inl rfl) [.int .i64 (zam ⟨2,0,t.t⟩).k,.string ⟨(zam ⟨2,0,t.t⟩).nm.toArray⟩,.int .i64 (zam ⟨2,0,t.t⟩).v.k,.int .i64 (zam ⟨2,0,t.t⟩).v.n,.string ⟨(zam ⟨2,0,t.t⟩).v.t.toArray⟩,.string ⟨(zam ⟨2,0,t.t⟩).op.toArray⟩,.slice ao (zam ⟨2,0,t.t⟩).xs.length cp] 0 (Kept.refl _ w6);dsimp only[setN]at SP K9;obtain ⟨p0,p1,p2,p3,p4,p5,p6⟩:=SP.seven;refine bodyPost_ret (by simp[results,results180,go_sem,p0,p1,p2,p3,p4,p5,p6];try rfl) rfl ?_;rw[HE.out]
 exact ⟨_,_,rfl,(hA6).both K9 (fun b _ hb e=>by have e':b=R:=e;rcases hb with hb|hb;exact hb.elim;have:=R4.lt;have:=hb5.size;omega) (fun b _ hb=>by rcases hb with hb|hb;exact hb.elim;have:=R4.lt;have:=hb5.size;omega),((KW4.out.behind hb5).behind hb6).then K9 (fun k hk e=>by have e':k=R:=e;omega),((HP4.out.below hb5).below hb6).apart K9 (by omega)⟩
