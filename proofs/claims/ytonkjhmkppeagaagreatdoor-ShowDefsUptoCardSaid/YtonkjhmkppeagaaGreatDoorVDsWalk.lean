/- Walks: the law of definitions of plain things. -/
import Derived.Test.YtonkjhmkppeagaaGreatDoorVDsMath
set_option linter.unusedVariables false
set_option linter.unusedSimpArgs false
namespace Go.Proofs.YtonkjhmkppeagaaGreatDoor.Pz
open Go.Proofs.Tryz
open Go.Lib (hid)
open Go.RowKit Go Go.Sort Ba Lx
section
variable {P:Program} {ops:Array Oper} {rest:List Oper} {o:Oper} {a:Act} {w:World} {Q:Exit→Act→World→Prop}
theorem h_val {v:Value} (hg:Region.wanted o (yielded ops a.tmps)=true) (hr:(execOp a.eval o).run P w=.ok (.value v) w) (h:Nx (wpList P ops Q rest (a.put o.dst v) w)):Nx (wpList P ops Q (o::rest) a w):=⟨zgH hg hr h.out⟩
end
theorem zpV (G:Str):(⟨(G++[59,10]).toArray⟩:ByteArray).data.toList[G.length+1]?=some 10:=by
 show (G++[59,10])[G.length+1]?=some 10
 rw[List.getElem?_append_right (by omega)];simp
theorem zrk (T:Str) (c:Nat):(⟨T.toArray⟩:ByteArray).extract 0 c=⟨(T.take c).toArray⟩:=by
 apply ByteArray.ext;rw[ByteArray.data_extract];show T.toArray.extract 0 c=(T.take c).toArray
 apply Array.toList_inj.1;rw[Array.toList_extract];simp[List.extract]
set_option maxRecDepth 100000 in
set_option maxHeartbeats 25600000 in
theorem showDefs_law (x:Df) (s0 s1 s2 v0 v1 v2 v3 v4 v5 v6:Value) (n0 n1 n2 n3 n4 n5 n6:Nat) (cut:Int) (w:World) (h:DfIn w 1048576 x s0 s1 s2) (g0:IsSl v0 n0) (g1:IsSl v1 n1) (g2:IsSl v2 n2) (g3:IsSl v3 n3) (g4:IsSl v4 n4) (g5:IsSl v5 n5) (g6:IsSl v6 n6) (hE:EnvX w) :
 Calls Tryz.prog 13 #[.agg (dfcC x s0 s1 s2 v0 v1 v2 v3 v4 v5 v6).toArray,.int .i64 cut] w (EqTo w true):=by
 have HAW:Hid (∀ W,Below w.heap.size w W→Calls Tryz.prog 14 #[] W (EqTo W true)):=fun W hW=>zoF W (hE.below hW)
 have hrow:n0=0→n1=0→n2=0→n3=0→n4=0→n5=0→n6=0→Row w (fun _=>True) (dfD x) (dfcC x s0 s1 s2 v0 v1 v2 v3 v4 v5 v6):=by
  rintro rfl rfl rfl rfl rfl rfl rfl;exact zqm h g0 g1 g2 g3 g4 g5 g6
 obtain ⟨sa,sc,rfl,hL,hL2⟩:=h.sch.len;obtain ⟨ia,ic,rfl,hI,hI2⟩:=h.ins.len;obtain ⟨ma,mc,rfl,hM,hM2⟩:=h.mks.len;obtain ⟨a0,c0,rfl,z0,y0,w0⟩:=g0;obtain ⟨a1,c1,rfl,z1,y1,w1⟩:=g1;obtain ⟨a2,c2,rfl,z2,y2,w2⟩:=g2;obtain ⟨a3,c3,rfl,z3,y3,w3⟩:=g3;obtain ⟨a4,c4,rfl,z4,y4,w4⟩:=g4;obtain ⟨a5,c5,rfl,z5,y5,w5⟩:=g5;obtain ⟨a6,c6,rfl,z6,y6,w6⟩:=g6;rw[yC]at hL hI hM;unfold maxLen at hL2 hI2 hM2 y0 y1 y2 y3 y4 y5 y6;have hlaw:∀ T:Str,T=dfG x x.plan.nm++[59,10]→x.nm.length≤50→x.cron.length≤100→x.sch.length≤30→x.ins.length≤30→x.mks.length≤30→x.plan.nm.length≤50→n0=0→n1=0→n2=0→n3=0→n4=0→n5=0→n6=0→
  T.length≤99000002∧∃ q:Bool,(q=true→(zaJ T).2.2=0∧(zaJ T).1=[x])∧∀ W,Below w.heap.size w W→Calls Tryz.prog 42 #[.agg (dfcC x (.slice sa (x.sch.map colD).length sc) (.slice ia (x.ins.map inpD).length ic) (.slice ma (x.mks.map strD).length mc) (.slice a0 n0 c0) (.slice a1 n1 c1) (.slice a2 n2 c2) (.slice a3 n3 c3) (.slice a4 n4 c4) (.slice a5 n5 c5) (.slice a6 n6 c6)).toArray] W (ShTo q ⟨T.toArray⟩ W):=by
  intro T hT b1 b2 b3 b4 b5 b6 e0 e1 e2 e3 e4 e5 e6;have hl:=zsn h b1 b2 b3 b4 b5 b6;have hTl:T.length≤99000002:=by rw[hT,yA];show _+2≤_;omega
  refine ⟨hTl,?_⟩;obtain ⟨q,hq⟩:=zda ((zaJ T).2.2=0∧(zaJ T).1=[x]);refine ⟨q,hq.1,fun W hW=>?_⟩;refine zmz x T q hq (fun y hy=>zqq y x h.flat) _ W _ ((hrow e0 e1 e2 e3 e4 e5 e6).kept (S:=fun _=>False) (Kept.of_below hW) (fun _ _ _ x=>x)) (hE.below hW) (fun cs W' ok h1 h2=>?_) (by omega);rw[hT];exact zpi x x.plan.nm (zsk h b2 b3 b4 b5) (fun _ ps W'' o hp _=>zlt x.plan h.flat.xs ps W'' o hp) hl cs W' ok h1 h2
 have HLAW:=hid hlaw;have HROW:=hid hrow;have HX:=hid h;have HE:=hid (fun W (hW:Below w.heap.size w W)=>hE.below hW);obtain ⟨L,eL⟩:∃ n,x.sch.length=n:=⟨_,rfl⟩;obtain ⟨I,eI⟩:∃ n,x.ins.length=n:=⟨_,rfl⟩;obtain ⟨M,eM⟩:∃ n,x.mks.length=n:=⟨_,rfl⟩;obtain ⟨N,eN⟩:∃ N:ByteArray,(⟨x.nm.toArray⟩:ByteArray)=N:=⟨_,rfl⟩;obtain ⟨CR,eC⟩:∃ N:ByteArray,(⟨x.cron.toArray⟩:ByteArray)=N:=⟨_,rfl⟩;obtain ⟨PN,eP⟩:∃ N:ByteArray,(⟨x.plan.nm.toArray⟩:ByteArray)=N:=⟨_,rfl⟩;have lN:N.size=x.nm.length:=by rw[← eN,sz_mk]
 have lC:CR.size=x.cron.length:=by rw[← eC,sz_mk]
 have lP:PN.size=x.plan.nm.length:=by rw[← eP,sz_mk]
 obtain ⟨X1,eX1⟩:∃ N:ByteArray,(⟨x.plan.cond.nm.toArray⟩:ByteArray)=N:=⟨_,rfl⟩;obtain ⟨X4,eX4⟩:∃ N:ByteArray,(⟨x.plan.cond.v.t.toArray⟩:ByteArray)=N:=⟨_,rfl⟩;obtain ⟨X5,eX5⟩:∃ N:ByteArray,(⟨x.plan.cond.op.toArray⟩:ByteArray)=N:=⟨_,rfl⟩;obtain ⟨dk,e_dk⟩:∃ n:Int,x.k=n:=⟨_,rfl⟩;obtain ⟨k0,e_k0⟩:∃ n:Int,x.sc.k=n:=⟨_,rfl⟩;obtain ⟨k1,e_k1⟩:∃ n:Int,x.sc.f=n:=⟨_,rfl⟩;obtain ⟨k2,e_k2⟩:∃ n:Int,x.sc.l=n:=⟨_,rfl⟩;obtain ⟨pk,e_pk⟩:∃ n:Int,x.plan.k=n:=⟨_,rfl⟩;obtain ⟨x0,e_x0⟩:∃ n:Int,x.plan.cond.k=n:=⟨_,rfl⟩;obtain ⟨x2,e_x2⟩:∃ n:Int,x.plan.cond.v.k=n:=⟨_,rfl⟩;obtain ⟨x3,e_x3⟩:∃ n:Int,x.plan.cond.v.n=n:=⟨_,rfl⟩;obtain ⟨pc,e_pc⟩:∃ n:Int,x.plan.cnt=n:=⟨_,rfl⟩
 have hcells:dfcC x (.slice sa (x.sch.map colD).length sc) (.slice ia (x.ins.map inpD).length ic) (.slice ma (x.mks.map strD).length mc) (.slice a0 n0 c0) (.slice a1 n1 c1) (.slice a2 n2 c2) (.slice a3 n3 c3) (.slice a4 n4 c4) (.slice a5 n5 c5) (.slice a6 n6 c6)=[.int .i64 dk,.string N,.slice sa L sc,.int .i64 k0,.int .i64 k1,.int .i64 k2,.slice ia I ic,.int .i64 pk,.string PN,.slice a0 n0 c0,.int .i64 x0,.string X1,.int .i64 x2,.int .i64 x3,.string X4,.string X5,.slice a1 n1 c1,.slice a2 n2 c2,.slice a3 n3 c3,.slice a4 n4 c4,.slice a5 n5 c5,.slice a6 n6 c6,.int .i64 pc,.string CR,.slice ma M mc]:=by
  show _=_
  unfold dfcC;rw[yC,yC,yC,eL,eI,eM,eN,eC,eP,eX1,eX4,eX5,e_dk,e_k0,e_k1,e_k2,e_pk,e_x0,e_x2,e_x3,e_pc]
 have HCE:=hid hcells;rw[hcells];have hsz:N.size≤1048576∧CR.size≤1048576∧PN.size≤1048576:=⟨by rw[lN];exact h.nm,by rw[lC];exact h.cron,by rw[lP];exact h.pn⟩;have HLS:Hid (N.size=x.nm.length∧CR.size=x.cron.length∧PN.size=x.plan.nm.length∧x.sch.length=L∧x.ins.length=I∧x.mks.length=M):=⟨lN,lC,lP,eL,eI,eM⟩;rw[eL]at hL;rw[eI]at hI;rw[eM]at hM;have H:=hid (St.start (S:=fun _=>False) w);have hw1:IntKind.i64.wrap ((n2:Int)+(n3:Int))=(n2:Int)+(n3:Int):=IntWalk.i64_in _ (by omega);have hw2:IntKind.i64.wrap ((n2:Int)+(n3:Int)+(n4:Int))=(n2:Int)+(n3:Int)+(n4:Int):=IntWalk.i64_in _ (by omega);have hw3:IntKind.i64.wrap ((n2:Int)+(n3:Int)+(n4:Int)+(n5:Int))=(n2:Int)+(n3:Int)+(n4:Int)+(n5:Int):=IntWalk.i64_in _ (by omega);have hw4:IntKind.i64.wrap ((n2:Int)+(n3:Int)+(n4:Int)+(n5:Int)+(n6:Int))=(n2:Int)+(n3:Int)+(n4:Int)+(n5:Int)+(n6:Int):=IntWalk.i64_in _ (by omega)
 clear h hrow hlaw hE hcells eN eC eP eX1 eX4 eX5 lN lC lP e_dk e_k0 e_k1 e_k2 e_pk e_x0 e_x2 e_x3 e_pc eL eI eM;clear hL hL2 hI hI2 hM hM2 hsz z0 y0 w0 z1 y1 w1 z2 y2 w2 z3 y3 w3 z4 y4 w4 z5 y5 w5 z6 y6 w6;by_cases q0:50<(N.size:Int)
 ·as_aux_lemma =>
   have t0:decide (50<(N.size:Int))=true:=yO q0;go_enter func13,ntmps13
   go_upto_region 1 with (refine St.w_box (vs:=[.int .i64 dk,.string N,.slice sa L sc,.int .i64 k0,.int .i64 k1,.int .i64 k2,.slice ia I ic,.int .i64 pk,.string PN,.slice a0 n0 c0,.int .i64 x0,.string X1,.int .i64 x2,.int .i64 x3,.string X4,.string X5,.slice a1 n1 c1,.slice a2 n2 c2,.slice a3 n3 c3,.slice a4 n4 c4,.slice a5 n5 c5,.slice a6 n6 c6,.int .i64 pc,.string CR,.slice ma M mc]) H.out (by rfl) rfl rfl rfl ?_;intro wn X _ _ H2;replace H:=hid H2;clear H2)
   have u1:=(H.out.at (i:=0) rfl).cl 1 _ rfl;have u2:=(H.out.at (i:=0) rfl).cl 2 _ rfl;have u6:=(H.out.at (i:=0) rfl).cl 6 _ rfl;have u8:=(H.out.at (i:=0) rfl).cl 8 _ rfl;have u9:=(H.out.at (i:=0) rfl).cl 9 _ rfl;have u16:=(H.out.at (i:=0) rfl).cl 16 _ rfl;have u17:=(H.out.at (i:=0) rfl).cl 17 _ rfl;have u18:=(H.out.at (i:=0) rfl).cl 18 _ rfl;have u19:=(H.out.at (i:=0) rfl).cl 19 _ rfl;have u20:=(H.out.at (i:=0) rfl).cl 20 _ rfl;have u21:=(H.out.at (i:=0) rfl).cl 21 _ rfl;have u23:=(H.out.at (i:=0) rfl).cl 23 _ rfl;have u24:=(H.out.at (i:=0) rfl).cl 24 _ rfl;refine wp_region_lit (Nx.out ?_);iterate 77 ((first|(refine h_skip (by rfl) ?_)|(refine h_val (by rfl) (by go_simp<;>with_reducible rfl) ?_));(try simp only[Array.reduceGetElem,zs]))
   refine ⟨?_⟩;go_wp2_with (go_at_call 14;(with_reducible (refine (HAW.out _ (zac H.out)).mono ?_));rintro e wc ⟨rfl,hb9⟩;replace H:=hid (H.out.below hb9);clear hb9)
   go_ret
   exact ⟨rfl,zac H.out⟩
 by_cases q1:100<(CR.size:Int)
 ·as_aux_lemma =>
   have t0:decide (50<(N.size:Int))=false:=yN q0;have t1:decide (100<(CR.size:Int))=true:=yO q1;go_enter func13,ntmps13
   go_upto_region 1 with (refine St.w_box (vs:=[.int .i64 dk,.string N,.slice sa L sc,.int .i64 k0,.int .i64 k1,.int .i64 k2,.slice ia I ic,.int .i64 pk,.string PN,.slice a0 n0 c0,.int .i64 x0,.string X1,.int .i64 x2,.int .i64 x3,.string X4,.string X5,.slice a1 n1 c1,.slice a2 n2 c2,.slice a3 n3 c3,.slice a4 n4 c4,.slice a5 n5 c5,.slice a6 n6 c6,.int .i64 pc,.string CR,.slice ma M mc]) H.out (by rfl) rfl rfl rfl ?_;intro wn X _ _ H2;replace H:=hid H2;clear H2)
   have u1:=(H.out.at (i:=0) rfl).cl 1 _ rfl;have u2:=(H.out.at (i:=0) rfl).cl 2 _ rfl;have u6:=(H.out.at (i:=0) rfl).cl 6 _ rfl;have u8:=(H.out.at (i:=0) rfl).cl 8 _ rfl;have u9:=(H.out.at (i:=0) rfl).cl 9 _ rfl;have u16:=(H.out.at (i:=0) rfl).cl 16 _ rfl;have u17:=(H.out.at (i:=0) rfl).cl 17 _ rfl;have u18:=(H.out.at (i:=0) rfl).cl 18 _ rfl;have u19:=(H.out.at (i:=0) rfl).cl 19 _ rfl;have u20:=(H.out.at (i:=0) rfl).cl 20 _ rfl;have u21:=(H.out.at (i:=0) rfl).cl 21 _ rfl;have u23:=(H.out.at (i:=0) rfl).cl 23 _ rfl;have u24:=(H.out.at (i:=0) rfl).cl 24 _ rfl;refine wp_region_lit (Nx.out ?_);iterate 77 ((first|(refine h_skip (by rfl) ?_)|(refine h_val (by rfl) (by go_simp<;>with_reducible rfl) ?_));(try simp only[Array.reduceGetElem,zs]))
   refine ⟨?_⟩;go_wp2_with (go_at_call 14;(with_reducible (refine (HAW.out _ (zac H.out)).mono ?_));rintro e wc ⟨rfl,hb9⟩;replace H:=hid (H.out.below hb9);clear hb9)
   go_ret
   exact ⟨rfl,zac H.out⟩
 by_cases q2:30<(L:Int)
 ·as_aux_lemma =>
   have t0:decide (50<(N.size:Int))=false:=yN q0;have t1:decide (100<(CR.size:Int))=false:=yN q1;have t2:decide (30<(L:Int))=true:=yO q2;go_enter func13,ntmps13
   go_upto_region 1 with (refine St.w_box (vs:=[.int .i64 dk,.string N,.slice sa L sc,.int .i64 k0,.int .i64 k1,.int .i64 k2,.slice ia I ic,.int .i64 pk,.string PN,.slice a0 n0 c0,.int .i64 x0,.string X1,.int .i64 x2,.int .i64 x3,.string X4,.string X5,.slice a1 n1 c1,.slice a2 n2 c2,.slice a3 n3 c3,.slice a4 n4 c4,.slice a5 n5 c5,.slice a6 n6 c6,.int .i64 pc,.string CR,.slice ma M mc]) H.out (by rfl) rfl rfl rfl ?_;intro wn X _ _ H2;replace H:=hid H2;clear H2)
   have u1:=(H.out.at (i:=0) rfl).cl 1 _ rfl;have u2:=(H.out.at (i:=0) rfl).cl 2 _ rfl;have u6:=(H.out.at (i:=0) rfl).cl 6 _ rfl;have u8:=(H.out.at (i:=0) rfl).cl 8 _ rfl;have u9:=(H.out.at (i:=0) rfl).cl 9 _ rfl;have u16:=(H.out.at (i:=0) rfl).cl 16 _ rfl;have u17:=(H.out.at (i:=0) rfl).cl 17 _ rfl;have u18:=(H.out.at (i:=0) rfl).cl 18 _ rfl;have u19:=(H.out.at (i:=0) rfl).cl 19 _ rfl;have u20:=(H.out.at (i:=0) rfl).cl 20 _ rfl;have u21:=(H.out.at (i:=0) rfl).cl 21 _ rfl;have u23:=(H.out.at (i:=0) rfl).cl 23 _ rfl;have u24:=(H.out.at (i:=0) rfl).cl 24 _ rfl;refine wp_region_lit (Nx.out ?_);iterate 77 ((first|(refine h_skip (by rfl) ?_)|(refine h_val (by rfl) (by go_simp<;>with_reducible rfl) ?_));(try simp only[Array.reduceGetElem,zs]))
   refine ⟨?_⟩;go_wp2_with (go_at_call 14;(with_reducible (refine (HAW.out _ (zac H.out)).mono ?_));rintro e wc ⟨rfl,hb9⟩;replace H:=hid (H.out.below hb9);clear hb9)
   go_ret
   exact ⟨rfl,zac H.out⟩
 by_cases q3:30<(I:Int)
 ·as_aux_lemma =>
   have t0:decide (50<(N.size:Int))=false:=yN q0;have t1:decide (100<(CR.size:Int))=false:=yN q1;have t2:decide (30<(L:Int))=false:=yN q2;have t3:decide (30<(I:Int))=true:=yO q3;go_enter func13,ntmps13
   go_upto_region 1 with (refine St.w_box (vs:=[.int .i64 dk,.string N,.slice sa L sc,.int .i64 k0,.int .i64 k1,.int .i64 k2,.slice ia I ic,.int .i64 pk,.string PN,.slice a0 n0 c0,.int .i64 x0,.string X1,.int .i64 x2,.int .i64 x3,.string X4,.string X5,.slice a1 n1 c1,.slice a2 n2 c2,.slice a3 n3 c3,.slice a4 n4 c4,.slice a5 n5 c5,.slice a6 n6 c6,.int .i64 pc,.string CR,.slice ma M mc]) H.out (by rfl) rfl rfl rfl ?_;intro wn X _ _ H2;replace H:=hid H2;clear H2)
   have u1:=(H.out.at (i:=0) rfl).cl 1 _ rfl;have u2:=(H.out.at (i:=0) rfl).cl 2 _ rfl;have u6:=(H.out.at (i:=0) rfl).cl 6 _ rfl;have u8:=(H.out.at (i:=0) rfl).cl 8 _ rfl;have u9:=(H.out.at (i:=0) rfl).cl 9 _ rfl;have u16:=(H.out.at (i:=0) rfl).cl 16 _ rfl;have u17:=(H.out.at (i:=0) rfl).cl 17 _ rfl;have u18:=(H.out.at (i:=0) rfl).cl 18 _ rfl;have u19:=(H.out.at (i:=0) rfl).cl 19 _ rfl;have u20:=(H.out.at (i:=0) rfl).cl 20 _ rfl;have u21:=(H.out.at (i:=0) rfl).cl 21 _ rfl;have u23:=(H.out.at (i:=0) rfl).cl 23 _ rfl;have u24:=(H.out.at (i:=0) rfl).cl 24 _ rfl;refine wp_region_lit (Nx.out ?_);iterate 77 ((first|(refine h_skip (by rfl) ?_)|(refine h_val (by rfl) (by go_simp<;>with_reducible rfl) ?_));(try simp only[Array.reduceGetElem,zs]))
   refine ⟨?_⟩;go_wp2_with (go_at_call 14;(with_reducible (refine (HAW.out _ (zac H.out)).mono ?_));rintro e wc ⟨rfl,hb9⟩;replace H:=hid (H.out.below hb9);clear hb9)
   go_ret
   exact ⟨rfl,zac H.out⟩
 by_cases q4:30<(M:Int)
 ·as_aux_lemma =>
   have t0:decide (50<(N.size:Int))=false:=yN q0;have t1:decide (100<(CR.size:Int))=false:=yN q1;have t2:decide (30<(L:Int))=false:=yN q2;have t3:decide (30<(I:Int))=false:=yN q3;have t4:decide (30<(M:Int))=true:=yO q4;go_enter func13,ntmps13
   go_upto_region 1 with (refine St.w_box (vs:=[.int .i64 dk,.string N,.slice sa L sc,.int .i64 k0,.int .i64 k1,.int .i64 k2,.slice ia I ic,.int .i64 pk,.string PN,.slice a0 n0 c0,.int .i64 x0,.string X1,.int .i64 x2,.int .i64 x3,.string X4,.string X5,.slice a1 n1 c1,.slice a2 n2 c2,.slice a3 n3 c3,.slice a4 n4 c4,.slice a5 n5 c5,.slice a6 n6 c6,.int .i64 pc,.string CR,.slice ma M mc]) H.out (by rfl) rfl rfl rfl ?_;intro wn X _ _ H2;replace H:=hid H2;clear H2)
   have u1:=(H.out.at (i:=0) rfl).cl 1 _ rfl;have u2:=(H.out.at (i:=0) rfl).cl 2 _ rfl;have u6:=(H.out.at (i:=0) rfl).cl 6 _ rfl;have u8:=(H.out.at (i:=0) rfl).cl 8 _ rfl;have u9:=(H.out.at (i:=0) rfl).cl 9 _ rfl;have u16:=(H.out.at (i:=0) rfl).cl 16 _ rfl;have u17:=(H.out.at (i:=0) rfl).cl 17 _ rfl;have u18:=(H.out.at (i:=0) rfl).cl 18 _ rfl;have u19:=(H.out.at (i:=0) rfl).cl 19 _ rfl;have u20:=(H.out.at (i:=0) rfl).cl 20 _ rfl;have u21:=(H.out.at (i:=0) rfl).cl 21 _ rfl;have u23:=(H.out.at (i:=0) rfl).cl 23 _ rfl;have u24:=(H.out.at (i:=0) rfl).cl 24 _ rfl;refine wp_region_lit (Nx.out ?_);iterate 77 ((first|(refine h_skip (by rfl) ?_)|(refine h_val (by rfl) (by go_simp<;>with_reducible rfl) ?_));(try simp only[Array.reduceGetElem,zs]))
   refine ⟨?_⟩;go_wp2_with (go_at_call 14;(with_reducible (refine (HAW.out _ (zac H.out)).mono ?_));rintro e wc ⟨rfl,hb9⟩;replace H:=hid (H.out.below hb9);clear hb9)
   go_ret
   exact ⟨rfl,zac H.out⟩
 by_cases q5:0<(n0:Int)
 ·as_aux_lemma =>
   have t0:decide (50<(N.size:Int))=false:=yN q0;have t1:decide (100<(CR.size:Int))=false:=yN q1;have t2:decide (30<(L:Int))=false:=yN q2;have t3:decide (30<(I:Int))=false:=yN q3;have t4:decide (30<(M:Int))=false:=yN q4;have t5:decide (0<(n0:Int))=true:=yO q5;have v5:decide (0<n0)=true:=yO (by omega);go_enter func13,ntmps13
   go_upto_region 1 with (refine St.w_box (vs:=[.int .i64 dk,.string N,.slice sa L sc,.int .i64 k0,.int .i64 k1,.int .i64 k2,.slice ia I ic,.int .i64 pk,.string PN,.slice a0 n0 c0,.int .i64 x0,.string X1,.int .i64 x2,.int .i64 x3,.string X4,.string X5,.slice a1 n1 c1,.slice a2 n2 c2,.slice a3 n3 c3,.slice a4 n4 c4,.slice a5 n5 c5,.slice a6 n6 c6,.int .i64 pc,.string CR,.slice ma M mc]) H.out (by rfl) rfl rfl rfl ?_;intro wn X _ _ H2;replace H:=hid H2;clear H2)
   have u1:=(H.out.at (i:=0) rfl).cl 1 _ rfl;have u2:=(H.out.at (i:=0) rfl).cl 2 _ rfl;have u6:=(H.out.at (i:=0) rfl).cl 6 _ rfl;have u8:=(H.out.at (i:=0) rfl).cl 8 _ rfl;have u9:=(H.out.at (i:=0) rfl).cl 9 _ rfl;have u16:=(H.out.at (i:=0) rfl).cl 16 _ rfl;have u17:=(H.out.at (i:=0) rfl).cl 17 _ rfl;have u18:=(H.out.at (i:=0) rfl).cl 18 _ rfl;have u19:=(H.out.at (i:=0) rfl).cl 19 _ rfl;have u20:=(H.out.at (i:=0) rfl).cl 20 _ rfl;have u21:=(H.out.at (i:=0) rfl).cl 21 _ rfl;have u23:=(H.out.at (i:=0) rfl).cl 23 _ rfl;have u24:=(H.out.at (i:=0) rfl).cl 24 _ rfl;refine wp_region_lit (Nx.out ?_);iterate 77 ((first|(refine h_skip (by rfl) ?_)|(refine h_val (by rfl) (by go_simp<;>with_reducible rfl) ?_));(try simp only[Array.reduceGetElem,zs]))
   refine ⟨?_⟩;go_wp2_with (go_at_call 14;(with_reducible (refine (HAW.out _ (zac H.out)).mono ?_));rintro e wc ⟨rfl,hb9⟩;replace H:=hid (H.out.below hb9);clear hb9)
   go_ret
   exact ⟨rfl,zac H.out⟩
 by_cases q6:0<(n2:Int)+(n3:Int)+(n4:Int)+(n5:Int)+(n6:Int)
 ·as_aux_lemma =>
   have t0:decide (50<(N.size:Int))=false:=yN q0;have t1:decide (100<(CR.size:Int))=false:=yN q1;have t2:decide (30<(L:Int))=false:=yN q2;have t3:decide (30<(I:Int))=false:=yN q3;have t4:decide (30<(M:Int))=false:=yN q4;have t5:decide (0<(n0:Int))=false:=yN q5;have t6:decide (0<(n2:Int)+(n3:Int)+(n4:Int)+(n5:Int)+(n6:Int))=true:=yO q6;have v5:decide (0<n0)=false:=yN (by omega);go_enter func13,ntmps13
   go_upto_region 1 with (refine St.w_box (vs:=[.int .i64 dk,.string N,.slice sa L sc,.int .i64 k0,.int .i64 k1,.int .i64 k2,.slice ia I ic,.int .i64 pk,.string PN,.slice a0 n0 c0,.int .i64 x0,.string X1,.int .i64 x2,.int .i64 x3,.string X4,.string X5,.slice a1 n1 c1,.slice a2 n2 c2,.slice a3 n3 c3,.slice a4 n4 c4,.slice a5 n5 c5,.slice a6 n6 c6,.int .i64 pc,.string CR,.slice ma M mc]) H.out (by rfl) rfl rfl rfl ?_;intro wn X _ _ H2;replace H:=hid H2;clear H2)
   have u1:=(H.out.at (i:=0) rfl).cl 1 _ rfl;have u2:=(H.out.at (i:=0) rfl).cl 2 _ rfl;have u6:=(H.out.at (i:=0) rfl).cl 6 _ rfl;have u8:=(H.out.at (i:=0) rfl).cl 8 _ rfl;have u9:=(H.out.at (i:=0) rfl).cl 9 _ rfl;have u16:=(H.out.at (i:=0) rfl).cl 16 _ rfl;have u17:=(H.out.at (i:=0) rfl).cl 17 _ rfl;have u18:=(H.out.at (i:=0) rfl).cl 18 _ rfl;have u19:=(H.out.at (i:=0) rfl).cl 19 _ rfl;have u20:=(H.out.at (i:=0) rfl).cl 20 _ rfl;have u21:=(H.out.at (i:=0) rfl).cl 21 _ rfl;have u23:=(H.out.at (i:=0) rfl).cl 23 _ rfl;have u24:=(H.out.at (i:=0) rfl).cl 24 _ rfl;refine wp_region_lit (Nx.out ?_);iterate 77 ((first|(refine h_skip (by rfl) ?_)|(refine h_val (by rfl) (by go_simp<;>with_reducible rfl) ?_));(try simp only[Array.reduceGetElem,zs]))
   refine ⟨?_⟩;go_wp2_with (go_at_call 14;(with_reducible (refine (HAW.out _ (zac H.out)).mono ?_));rintro e wc ⟨rfl,hb9⟩;replace H:=hid (H.out.below hb9);clear hb9)
   go_ret
   exact ⟨rfl,zac H.out⟩
 by_cases q7:0<(n1:Int)
 ·as_aux_lemma =>
   have t0:decide (50<(N.size:Int))=false:=yN q0;have t1:decide (100<(CR.size:Int))=false:=yN q1;have t2:decide (30<(L:Int))=false:=yN q2;have t3:decide (30<(I:Int))=false:=yN q3;have t4:decide (30<(M:Int))=false:=yN q4;have t5:decide (0<(n0:Int))=false:=yN q5;have t6:decide (0<(n2:Int)+(n3:Int)+(n4:Int)+(n5:Int)+(n6:Int))=false:=yN q6;have t7:decide (0<(n1:Int))=true:=yO q7;have v5:decide (0<n0)=false:=yN (by omega);have v7:decide (0<n1)=true:=yO (by omega);go_enter func13,ntmps13
   go_upto_region 1 with (refine St.w_box (vs:=[.int .i64 dk,.string N,.slice sa L sc,.int .i64 k0,.int .i64 k1,.int .i64 k2,.slice ia I ic,.int .i64 pk,.string PN,.slice a0 n0 c0,.int .i64 x0,.string X1,.int .i64 x2,.int .i64 x3,.string X4,.string X5,.slice a1 n1 c1,.slice a2 n2 c2,.slice a3 n3 c3,.slice a4 n4 c4,.slice a5 n5 c5,.slice a6 n6 c6,.int .i64 pc,.string CR,.slice ma M mc]) H.out (by rfl) rfl rfl rfl ?_;intro wn X _ _ H2;replace H:=hid H2;clear H2)
   have u1:=(H.out.at (i:=0) rfl).cl 1 _ rfl;have u2:=(H.out.at (i:=0) rfl).cl 2 _ rfl;have u6:=(H.out.at (i:=0) rfl).cl 6 _ rfl;have u8:=(H.out.at (i:=0) rfl).cl 8 _ rfl;have u9:=(H.out.at (i:=0) rfl).cl 9 _ rfl;have u16:=(H.out.at (i:=0) rfl).cl 16 _ rfl;have u17:=(H.out.at (i:=0) rfl).cl 17 _ rfl;have u18:=(H.out.at (i:=0) rfl).cl 18 _ rfl;have u19:=(H.out.at (i:=0) rfl).cl 19 _ rfl;have u20:=(H.out.at (i:=0) rfl).cl 20 _ rfl;have u21:=(H.out.at (i:=0) rfl).cl 21 _ rfl;have u23:=(H.out.at (i:=0) rfl).cl 23 _ rfl;have u24:=(H.out.at (i:=0) rfl).cl 24 _ rfl;refine wp_region_lit (Nx.out ?_);iterate 77 ((first|(refine h_skip (by rfl) ?_)|(refine h_val (by rfl) (by go_simp<;>with_reducible rfl) ?_));(try simp only[Array.reduceGetElem,zs]))
   refine ⟨?_⟩;go_wp2_with (go_at_call 14;(with_reducible (refine (HAW.out _ (zac H.out)).mono ?_));rintro e wc ⟨rfl,hb9⟩;replace H:=hid (H.out.below hb9);clear hb9)
   go_ret
   exact ⟨rfl,zac H.out⟩
 by_cases q8:50<(PN.size:Int)
 ·as_aux_lemma =>
   have t0:decide (50<(N.size:Int))=false:=yN q0;have t1:decide (100<(CR.size:Int))=false:=yN q1;have t2:decide (30<(L:Int))=false:=yN q2;have t3:decide (30<(I:Int))=false:=yN q3;have t4:decide (30<(M:Int))=false:=yN q4;have t5:decide (0<(n0:Int))=false:=yN q5;have t6:decide (0<(n2:Int)+(n3:Int)+(n4:Int)+(n5:Int)+(n6:Int))=false:=yN q6;have t7:decide (0<(n1:Int))=false:=yN q7;have t8:decide (50<(PN.size:Int))=true:=yO q8;have v5:decide (0<n0)=false:=yN (by omega);have v7:decide (0<n1)=false:=yN (by omega);go_enter func13,ntmps13
   go_upto_region 1 with (refine St.w_box (vs:=[.int .i64 dk,.string N,.slice sa L sc,.int .i64 k0,.int .i64 k1,.int .i64 k2,.slice ia I ic,.int .i64 pk,.string PN,.slice a0 n0 c0,.int .i64 x0,.string X1,.int .i64 x2,.int .i64 x3,.string X4,.string X5,.slice a1 n1 c1,.slice a2 n2 c2,.slice a3 n3 c3,.slice a4 n4 c4,.slice a5 n5 c5,.slice a6 n6 c6,.int .i64 pc,.string CR,.slice ma M mc]) H.out (by rfl) rfl rfl rfl ?_;intro wn X _ _ H2;replace H:=hid H2;clear H2)
   have u1:=(H.out.at (i:=0) rfl).cl 1 _ rfl;have u2:=(H.out.at (i:=0) rfl).cl 2 _ rfl;have u6:=(H.out.at (i:=0) rfl).cl 6 _ rfl;have u8:=(H.out.at (i:=0) rfl).cl 8 _ rfl;have u9:=(H.out.at (i:=0) rfl).cl 9 _ rfl;have u16:=(H.out.at (i:=0) rfl).cl 16 _ rfl;have u17:=(H.out.at (i:=0) rfl).cl 17 _ rfl;have u18:=(H.out.at (i:=0) rfl).cl 18 _ rfl;have u19:=(H.out.at (i:=0) rfl).cl 19 _ rfl;have u20:=(H.out.at (i:=0) rfl).cl 20 _ rfl;have u21:=(H.out.at (i:=0) rfl).cl 21 _ rfl;have u23:=(H.out.at (i:=0) rfl).cl 23 _ rfl;have u24:=(H.out.at (i:=0) rfl).cl 24 _ rfl;refine wp_region_lit (Nx.out ?_);iterate 77 ((first|(refine h_skip (by rfl) ?_)|(refine h_val (by rfl) (by go_simp<;>with_reducible rfl) ?_));(try simp only[Array.reduceGetElem,zs]))
   refine ⟨?_⟩;go_wp2_with (go_at_call 14;(with_reducible (refine (HAW.out _ (zac H.out)).mono ?_));rintro e wc ⟨rfl,hb9⟩;replace H:=hid (H.out.below hb9);clear hb9)
   go_ret
   exact ⟨rfl,zac H.out⟩
 have t0:decide (50<(N.size:Int))=false:=yN q0;have t1:decide (100<(CR.size:Int))=false:=yN q1;have t2:decide (30<(L:Int))=false:=yN q2;have t3:decide (30<(I:Int))=false:=yN q3;have t4:decide (30<(M:Int))=false:=yN q4;have t5:decide (0<(n0:Int))=false:=yN q5;have t6:decide (0<(n2:Int)+(n3:Int)+(n4:Int)+(n5:Int)+(n6:Int))=false:=yN q6;have t7:decide (0<(n1:Int))=false:=yN q7;have t8:decide (50<(PN.size:Int))=false:=yN q8;have v5:decide (0<n0)=false:=yN (by omega);have v7:decide (0<n1)=false:=yN (by omega);obtain ⟨l1,l2,l3,l4,l5,l6⟩:=HLS.out;obtain ⟨hTl,q,hq,hdef⟩:=HLAW.out _ rfl (by omega) (by omega) (by omega) (by omega) (by omega) (by omega) (by omega) (by omega) (by omega) (by omega) (by omega) (by omega) (by omega)
 obtain ⟨GG,hGG⟩:∃ G:Str,dfG x x.plan.nm=G:=⟨_,rfl⟩;rw[hGG]at hTl hq hdef;obtain ⟨T,hT⟩:∃ T:ByteArray,(⟨(GG++[59,10]).toArray⟩:ByteArray)=T:=⟨_,rfl⟩;rw[hT,HCE.out]at hdef;unfold ShTo at hdef;have hTs:T.size=GG.length+2:=by rw[← hT,sz_mk,yA];rfl
 have HROW2:Hid (∀ W,Below w.heap.size w W→Row W (fun _=>True) (dfD x) [.int .i64 dk,.string N,.slice sa L sc,.int .i64 k0,.int .i64 k1,.int .i64 k2,.slice ia I ic,.int .i64 pk,.string PN,.slice a0 n0 c0,.int .i64 x0,.string X1,.int .i64 x2,.int .i64 x3,.string X4,.string X5,.slice a1 n1 c1,.slice a2 n2 c2,.slice a3 n3 c3,.slice a4 n4 c4,.slice a5 n5 c5,.slice a6 n6 c6,.int .i64 pc,.string CR,.slice ma M mc]):=fun W hW=>by rw[← HCE.out];exact (HROW.out (by omega) (by omega) (by omega) (by omega) (by omega) (by omega) (by omega)).kept (S:=fun _=>False) (Kept.of_below hW) (fun _ _ _ x=>x)
 cases q with
 | false =>
  have HDEF:=hid hdef;clear hdef hq hTl hT hTs hGG l1 l2 l3 l4 l5 l6 HROW2;go_enter func13,ntmps13
  go_upto_region 1 with (refine St.w_box (vs:=[.int .i64 dk,.string N,.slice sa L sc,.int .i64 k0,.int .i64 k1,.int .i64 k2,.slice ia I ic,.int .i64 pk,.string PN,.slice a0 n0 c0,.int .i64 x0,.string X1,.int .i64 x2,.int .i64 x3,.string X4,.string X5,.slice a1 n1 c1,.slice a2 n2 c2,.slice a3 n3 c3,.slice a4 n4 c4,.slice a5 n5 c5,.slice a6 n6 c6,.int .i64 pc,.string CR,.slice ma M mc]) H.out (by rfl) rfl rfl rfl ?_;intro wn X _ _ H2;replace H:=hid H2;clear H2)
  have u1:=(H.out.at (i:=0) rfl).cl 1 _ rfl;have u2:=(H.out.at (i:=0) rfl).cl 2 _ rfl;have u6:=(H.out.at (i:=0) rfl).cl 6 _ rfl;have u8:=(H.out.at (i:=0) rfl).cl 8 _ rfl;have u9:=(H.out.at (i:=0) rfl).cl 9 _ rfl;have u16:=(H.out.at (i:=0) rfl).cl 16 _ rfl;have u17:=(H.out.at (i:=0) rfl).cl 17 _ rfl;have u18:=(H.out.at (i:=0) rfl).cl 18 _ rfl;have u19:=(H.out.at (i:=0) rfl).cl 19 _ rfl;have u20:=(H.out.at (i:=0) rfl).cl 20 _ rfl;have u21:=(H.out.at (i:=0) rfl).cl 21 _ rfl;have u23:=(H.out.at (i:=0) rfl).cl 23 _ rfl;have u24:=(H.out.at (i:=0) rfl).cl 24 _ rfl;refine wp_region_lit (Nx.out ?_);iterate 77 ((first|(refine h_skip (by rfl) ?_)|(refine h_val (by rfl) (by go_simp<;>with_reducible rfl) ?_));(try simp only[Array.reduceGetElem,zs]))
  refine ⟨?_⟩;clear u1 u2 u6 u8 u9 u16 u17 u18 u19 u20 u21 u23 u24;go_wp2_with (first|(refine St.w_load (ty:=88) H.out (by rfl) rfl rfl 0 rfl uDf_ sDf_ ?_)|(go_at_call 42;(with_reducible (refine (HDEF.out _ (zac H.out)).mono ?_));rintro e wc ⟨rfl,hb9⟩;replace H:=hid (H.out.below hb9);clear hb9)|(go_at_call 14;(with_reducible (refine (HAW.out _ (zac H.out)).mono ?_));rintro e wc ⟨rfl,hb9⟩;replace H:=hid (H.out.below hb9);clear hb9))
  go_ret
  exact ⟨rfl,zac H.out⟩
 | true =>
  obtain ⟨hp1,hp2⟩:=hq rfl;have hok:=(zgQ hp1).1 x (by rw[hp2];exact List.mem_singleton_self x);have hlen:=zm6 hp1;have hpe:zaJ (GG++[59,10])=([x],T.size,0):=by
   have h3:=(zgQ hp1).2.2;rw[← hT,sz_mk];exact Prod.ext hp2 (Prod.ext h3 hp1)
  have hflat:=zoa hok HX.out.flat;rw[hGG]at hflat;have hcutL:∀ c:Nat,c<GG.length+1→(zaJ ((GG++[59,10]).take c)).2.2=0→(zaJ ((GG++[59,10]).take c)).1=[]:=fun c hc he=>by
   rw[List.take_append_of_le_length (by omega)]at he ⊢;exact zm8 hok (y:=GG.drop c) (by rw[List.take_append_drop];exact hflat) (by rw[← hflat];rw[yA]at hlen;omega) he
  have HCUT:=hid hcutL;have HDEF:Hid (∀ W,Below w.heap.size w W→Calls Tryz.prog 42 #[.agg #[.int .i64 dk,.string N,.slice sa L sc,.int .i64 k0,.int .i64 k1,.int .i64 k2,.slice ia I ic,.int .i64 pk,.string PN,.slice a0 n0 c0,.int .i64 x0,.string X1,.int .i64 x2,.int .i64 x3,.string X4,.string X5,.slice a1 n1 c1,.slice a2 n2 c2,.slice a3 n3 c3,.slice a4 n4 c4,.slice a5 n5 c5,.slice a6 n6 c6,.int .i64 pc,.string CR,.slice ma M mc]] W fun e w'=>e=.returned (.tuple #[.string T,.int .i64 0])∧Below W.heap.size W w'):=hdef;have HP:Hid (∀ W,Below w.heap.size w W→Calls Tryz.prog 32 #[.string T] W (zgB ([x],T.size,0) W)):=fun W hW=>by
   have:=zeM T W (HE.out W hW).l;rw[show T.data.toList=GG++[59,10] from by rw[← hT],hpe]at this;exact this
  obtain ⟨m,hm⟩:∃ m,GG.length+1=m:=⟨_,rfl⟩;have hTm:T.size=m+1:=by omega
  have hTi:((T.size:Int)-1)=(m:Int):=by omega
  have hTb:T.size≤16384:=by rw[← hT,sz_mk];exact hlen
  have hbyte:∀ hh:m<T.size,T[m]'hh=10:=fun hh=>by
   have hlt:T.data.toList[m]?=some 10:=by rw[← hT,← hm];exact zpV GG
   exact Va.str_at hh hlt
  have hmw:IntKind.i64.wrap (m:Int)=(m:Int):=IntWalk.i64_in _ (by omega);have hltm:(m:Int)<(T.size:Int):=by omega
  have HTT:=hid hT;have HMM:=hid hm;have HTM:=hid hTm;clear hdef hq hp1 hp2 hok hlen hpe hflat hcutL hT hTs hTl hm hTm hGG l1 l2 l3 l4 l5 l6;go_enter func13,ntmps13
  go_upto_region 1 with (refine St.w_box (vs:=[.int .i64 dk,.string N,.slice sa L sc,.int .i64 k0,.int .i64 k1,.int .i64 k2,.slice ia I ic,.int .i64 pk,.string PN,.slice a0 n0 c0,.int .i64 x0,.string X1,.int .i64 x2,.int .i64 x3,.string X4,.string X5,.slice a1 n1 c1,.slice a2 n2 c2,.slice a3 n3 c3,.slice a4 n4 c4,.slice a5 n5 c5,.slice a6 n6 c6,.int .i64 pc,.string CR,.slice ma M mc]) H.out (by rfl) rfl rfl rfl ?_;intro wn X _ _ H2;replace H:=hid H2;clear H2)
  have u1:=(H.out.at (i:=0) rfl).cl 1 _ rfl;have u2:=(H.out.at (i:=0) rfl).cl 2 _ rfl;have u6:=(H.out.at (i:=0) rfl).cl 6 _ rfl;have u8:=(H.out.at (i:=0) rfl).cl 8 _ rfl;have u9:=(H.out.at (i:=0) rfl).cl 9 _ rfl;have u16:=(H.out.at (i:=0) rfl).cl 16 _ rfl;have u17:=(H.out.at (i:=0) rfl).cl 17 _ rfl;have u18:=(H.out.at (i:=0) rfl).cl 18 _ rfl;have u19:=(H.out.at (i:=0) rfl).cl 19 _ rfl;have u20:=(H.out.at (i:=0) rfl).cl 20 _ rfl;have u21:=(H.out.at (i:=0) rfl).cl 21 _ rfl;have u23:=(H.out.at (i:=0) rfl).cl 23 _ rfl;have u24:=(H.out.at (i:=0) rfl).cl 24 _ rfl;refine wp_region_lit (Nx.out ?_);iterate 77 ((first|(refine h_skip (by rfl) ?_)|(refine h_val (by rfl) (by go_simp<;>with_reducible rfl) ?_));(try simp only[Array.reduceGetElem,zs]))
  refine ⟨?_⟩;clear u1 u2 u6 u8 u9 u16 u17 u18 u19 u20 u21 u23 u24;go_upto_region 7 with (first|(refine St.w_load (ty:=88) H.out (by rfl) rfl rfl 0 rfl uDf_ sDf_ ?_)|(go_at_call 42;(with_reducible (refine (HDEF.out _ (zac H.out)).mono ?_));rintro e wc ⟨rfl,hb9⟩;replace H:=hid (H.out.below hb9);clear hb9)|(go_at_call 32;(with_reducible (refine (HP.out _ (zac H.out)).mono ?_));rintro e wc ⟨ao,cp,rfl,hR,_,hb9⟩;replace H:=hid (H.out.more (H.out.below hb9) (ds:=[.sl 25 [dfD x]]) (cs:=[.slice ao 1 cp]) ((Row.nil _ _).cons hR));clear hb9 hR))
  have hrep:=repOf (H.out.rowAt (j:=0) rfl);obtain ⟨g,og,CX,rfl,hXr,hXl,hXc⟩:=hrep.cellsR (i:=0) (r:=dfD x) rfl;have HCX:Hid (∀ W,Below wc.heap.size wc W→∀ (j:Nat) (v:Value),CX[j]?=some v→W.cell? ⟨g,og+j,none⟩=some v):=fun W hW j v hv=>by have:=hXc W hW j v hv;simpa using this
  have hbx:=H.out.at (i:=0) rfl;obtain ⟨CB,hCB⟩:∃ cs:List Value,[.int .i64 dk,.string N,.slice sa L sc,.int .i64 k0,.int .i64 k1,.int .i64 k2,.slice ia I ic,.int .i64 pk,.string PN,.slice a0 n0 c0,.int .i64 x0,.string X1,.int .i64 x2,.int .i64 x3,.string X4,.string X5,.slice a1 n1 c1,.slice a2 n2 c2,.slice a3 n3 c3,.slice a4 n4 c4,.slice a5 n5 c5,.slice a6 n6 c6,.int .i64 pc,.string CR,.slice ma M mc]=cs:=⟨_,rfl⟩;rw[hCB]at hbx;have HCB:Hid (∀ W,Below wc.heap.size wc W→∀ (j:Nat) (v:Value),CB[j]?=some v→W.cell? ⟨X,0+j,none⟩=some v):=fun W hW j v hv=>by rw[Nat.zero_add];exact (hW.cell (by exact hbx.lt)).trans (hbx.cl j v hv)
  have HSX:Hid ((Tryz.prog.info? 88).map (·.size)=some CX.length):=by show _=_;rw[hXl];exact sDf_
  have HSB:Hid ((Tryz.prog.info? 88).map (·.size)=some CB.length):=by show _=_;rw[← hCB];exact sDf_
  have hwc:=zac H.out;have HEQ:Hid (∀ W,Below wc.heap.size wc W→Calls Tryz.prog 34 #[.agg CX.toArray,.agg CB.toArray] W (EqTo W true)):=fun W hW=>zom x CX CB W _ (fun _=>True) (hXr.kept (S:=fun _=>False) (Kept.of_below hW) (fun _ _ _ x=>x)) (by rw[← hCB];exact HROW2.out W (two hwc hW))
  clear hrep hXr hXl hXc hbx hwc hCB HROW2;refine zaa 18 (S:=fun W=>Below wc.heap.size wc W) (by kernel_rfl) (by exact zfl (Below.refl _ _)) (fun zJ=>?_);refine tKp 0 ?_;refine tKp 1 ?_;refine tKp 2 ?_;refine tKp 3 ?_;refine tKp 4 ?_;refine tKp 5 ?_;refine tKp 6 ?_;refine tKp 7 ?_;refine tKp 8 ?_;refine tKp 9 ?_;refine tKp 10 ?_;refine tKp 11 ?_;refine tKp 12 ?_;refine tKp 13 ?_;refine tKp 14 ?_;refine tKp 15 ?_;refine tkM 16 rfl (by kernel_rfl) zJ (Or.inl ⟨by rfl,fun w hSw=>zbG (ty:=88) rfl rfl uDf_ HSX.out (HCX.out w hSw)⟩) ?_;try simp only[Array.reduceGetElem,zs]
  refine tkM 17 rfl (by kernel_rfl) zJ (Or.inl ⟨by rfl,fun w hSw=>zbG (ty:=88) rfl rfl uDf_ HSB.out (HCB.out w hSw)⟩) ?_;refine rKl 18 fun K hK=>?_
  go_simp
  (go_at_call 34;(with_reducible (refine (HEQ.out _ zJ).mono ?_)))
  rintro e wd ⟨rfl,hb⟩;have H2:=H.out.below (two zJ hb);refine hK.out _ _ ?_;clear hK K;clear hb zJ;replace H:=hid H2;clear H2;try simp only[Array.reduceGetElem,zs]
  refine tkY 19 rfl (by kernel_rfl) (Or.inl ⟨by rfl,by intro w hSw;clear hSw;go_simp<;>with_reducible rfl⟩) ?_;try simp only[Array.reduceGetElem,zs]
  refine tkY 20 rfl (by kernel_rfl) (Or.inl ⟨by rfl,by intro w hSw;clear hSw;go_simp<;>with_reducible rfl⟩) ?_;try simp only[Array.reduceGetElem,zs]
  refine tkY 21 rfl (by kernel_rfl) (Or.inl ⟨by rfl,by intro w hSw;clear hSw;go_simp<;>with_reducible rfl⟩) ?_;try simp only[Array.reduceGetElem,zs]
  refine tkY 22 rfl (by kernel_rfl) (Or.inl ⟨by rfl,by intro w hSw;clear hSw;go_simp<;>with_reducible rfl⟩) ?_;try simp only[Array.reduceGetElem,zs]
  refine tkY 23 rfl (by kernel_rfl) (Or.inl ⟨by rfl,by intro w hSw;clear hSw;go_simp<;>with_reducible rfl⟩) ?_;try simp only[Array.reduceGetElem,zs]
  refine tkY 24 rfl (by kernel_rfl) (Or.inl ⟨by rfl,by intro w hSw;clear hSw;go_simp<;>with_reducible rfl⟩) ?_;try simp only[Array.reduceGetElem,zs]
  refine tkY 25 rfl (by kernel_rfl) (Or.inl ⟨by rfl,by intro w hSw;clear hSw;go_simp<;>with_reducible rfl⟩) ?_;try simp only[Array.reduceGetElem,zs]
  refine tkY 26 rfl (by kernel_rfl) (Or.inl ⟨by rfl,by intro w hSw;clear hSw;go_simp<;>with_reducible rfl⟩) ?_;try simp only[Array.reduceGetElem,zs]
  refine tkY 27 rfl (by kernel_rfl) (Or.inl ⟨by rfl,by intro w hSw;clear hSw;go_simp<;>with_reducible rfl⟩) ?_;try simp only[Array.reduceGetElem,zs]
  refine tkY 28 rfl (by kernel_rfl) (Or.inl ⟨by rfl,by intro w hSw;clear hSw;go_simp<;>with_reducible rfl⟩) ?_;refine rKd ?_;by_cases hc1:cut<0
  ·have t10:decide (cut<0)=true:=yO hc1;go_wp2_with (go_at_call 14;(with_reducible (refine (HAW.out _ (zac H.out)).mono ?_));rintro e wc ⟨rfl,hb9⟩;replace H:=hid (H.out.below hb9);clear hb9)
   go_ret
   exact ⟨rfl,zac H.out⟩
  ·have t10:decide (cut<0)=false:=yN hc1;by_cases hc2:(m:Int)≤cut
   ·have t11:decide ((m:Int)≤cut)=true:=yO hc2;go_wp2_with (go_at_call 14;(with_reducible (refine (HAW.out _ (zac H.out)).mono ?_));rintro e wc ⟨rfl,hb9⟩;replace H:=hid (H.out.below hb9);clear hb9)
    go_ret
    exact ⟨rfl,zac H.out⟩
   ·have t11:decide ((m:Int)≤cut)=false:=yN hc2;obtain ⟨c,rfl⟩:∃ c:Nat,cut=(c:Int):=⟨cut.toNat,by omega⟩;have hcm:c<m:=by omega
    have hcz:=HCUT.out c (by rw[HMM.out];exact hcm);obtain ⟨⟨ms,ua,ue⟩,hu⟩:∃ r,zaJ ((GG++[59,10]).take c)=r:=⟨_,rfl⟩;rw[hu]at hcz;obtain ⟨U,hU⟩:∃ U,T.extract 0 c=U:=⟨_,rfl⟩;have HP2:Hid (∀ W,Below w.heap.size w W→Calls Tryz.prog 32 #[.string U] W (zgB (ms,ua,ue) W)):=fun W hW=>by
     have:=zeM U W (HE.out W hW).l;rw[show U.data.toList=(GG++[59,10]).take c from by rw[← hU,← HTT.out,zrk],hu]at this;exact this
    have hcT:c≤T.size:=by rw[HTM.out];omega
    clear hu;by_cases hue:ue=0
    ·obtain rfl:=hue;obtain rfl:ms=[]:=hcz rfl;go_wp2_with (first|(go_at_call 32;(with_reducible (refine (HP2.out _ (zac H.out)).mono ?_));rintro e wc ⟨ao2,cp2,rfl,_,_,hb9⟩;replace H:=hid (H.out.below hb9);clear hb9)|(go_at_call 14;(with_reducible (refine (HAW.out _ (zac H.out)).mono ?_));rintro e wc ⟨rfl,hb9⟩;replace H:=hid (H.out.below hb9);clear hb9))
     go_ret
     exact ⟨rfl,zac H.out⟩
    ·have t12:(ue != 0)=true:=by simpa using hue
     clear hue hcz;go_wp2_with (first|(go_at_call 32;(with_reducible (refine (HP2.out _ (zac H.out)).mono ?_));rintro e wc ⟨ao2,cp2,rfl,_,_,hb9⟩;replace H:=hid (H.out.below hb9);clear hb9)|(go_at_call 14;(with_reducible (refine (HAW.out _ (zac H.out)).mono ?_));rintro e wc ⟨rfl,hb9⟩;replace H:=hid (H.out.below hb9);clear hb9))
     go_ret
     exact ⟨rfl,zac H.out⟩
