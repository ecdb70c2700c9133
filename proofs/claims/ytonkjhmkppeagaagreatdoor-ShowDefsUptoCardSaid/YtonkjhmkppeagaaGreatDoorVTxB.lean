/- Walks: the text of an operation of two. Walks: the text of a call; of any expression. Walks: the text of an expression, or that it has none. The plain law of expressions: what is read has a text that tells it again. -/
import Derived.Test.YtonkjhmkppeagaaGreatDoorVTxA
set_option maxRecDepth 100000
set_option maxHeartbeats 6400000
set_option linter.unusedVariables false
set_option linter.unusedSimpArgs false
namespace Go.Proofs.YtonkjhmkppeagaaGreatDoor.Pz
open Go.Proofs.Tryz
open Go.Lib (hid)
open Go.RowKit Go Go.Sort Ba Lx
theorem zo4 (x a b:Ex) (h4:x.k=4) (hxs:x.xs=[a,b]) (iha:TxOk a) (ihb:TxOk b):TxOk x:=fun sa ca w ok hA hE hb hlen=>by
 have bw:Below w.heap.size w (w.alloc (.cells #[.int .i64 x.k,.string ⟨x.nm.toArray⟩,.int .i64 x.v.k,.int .i64 x.v.n,.string ⟨x.v.t.toArray⟩,.string ⟨x.op.toArray⟩,.slice sa x.xs.length ca] 27)):=(Below.refl _ w).alloc (yG _) _;have X:=Box.new w [.int .i64 x.k,.string ⟨x.nm.toArray⟩,.int .i64 x.v.k,.int .i64 x.v.n,.string ⟨x.v.t.toArray⟩,.string ⟨x.op.toArray⟩,.slice sa x.xs.length ca] 27;have HB:=hid bw;have hbs:=((zfv x).mp hb).2.2.2.2.2;have hba:BdE a:=ze3 hbs a (by rw[hxs];simp);have hbb:BdE b:=ze3 hbs b (by rw[hxs];simp);have hopl:=((zfv x).mp hb).2.2.2.2.1;have HA:=hid hA;have HE:=hid hE;have hXA:=hid (fun W (hW:Below w.heap.size w W)=>hA.below hW);obtain ⟨Y,hY⟩:∃ Y:ByteArray,(⟨x.op.toArray⟩:ByteArray)=Y:=⟨_,rfl⟩;have hYs:Y.size≤140737488355328:=by rw[← hY,sz_mk];exact hopl
 have hL0:=zia x;have hL1:LimE x≤LimE a:=zh9 (by rw[hxs];simp);have hL2:LimE x≤LimE b:=zh9 (by rw[hxs];simp);have hn:x.xs.length=2:=by rw[hxs];rfl
 have hr4:rankE x=zaH x.op:=zmV h4;have hr6:=zeL x.op;have HT:=zrh h4 hxs;obtain ⟨r,hr⟩:∃ r,zaH x.op=r:=⟨_,rfl⟩;obtain ⟨l,hl⟩:∃ l,leftR x.op=l:=⟨_,rfl⟩;have hlr:l=if r=4 then 5 else r:=by rw[← hl,← hr];rfl
 rw[hr]at hr4 hr6 HT;rw[hl]at HT;have hll:l≤100:=by rw[hlr];split<;>omega
 have hlwa0:(wiT l (a,textE a)).length≤LimE x:=by rw[HT]at hlen;simp at hlen;omega
 have hlwb0:(wiT (r+1) (b,textE b)).length≤LimE x:=by rw[HT]at hlen;simp at hlen;omega
 have hlwa:(wiT l (a,textE a)).length≤1125899906842624:=yH hlwa0 hL0;have hlwb:(wiT (r+1) (b,textE b)).length≤1125899906842624:=yH hlwb0 hL0;have hla:(textE a).length≤LimE a:=yH (zht l (a,textE a)) (yH hlwa0 hL1);have hlb:(textE b).length≤LimE b:=yH (zht (r+1) (b,textE b)) (yH hlwb0 hL2);clear hlwa0 hlwb0 hL0 hL1 hL2;obtain ⟨S,hS⟩:∃ S:ByteArray,(⟨(wiT l (a,textE a)).toArray⟩:ByteArray)=S:=⟨_,rfl⟩;obtain ⟨T,hT⟩:∃ T:ByteArray,(⟨(wiT (r+1) (b,textE b)).toArray⟩:ByteArray)=T:=⟨_,rfl⟩;have hSs:S.size≤1125899906842624:=by rw[← hS,sz_mk];exact hlwa
 have hTs:T.size≤1125899906842624:=by rw[← hT,sz_mk];exact hlwb
 have HW:Hid ((((S++⟨#[32]⟩)++Y)++⟨#[32]⟩)++T=⟨(textE x).toArray⟩):=by
  show _=_
  rw[← hS,← hT,← hY,HT];show (((((⟨(wiT l (a,textE a)).toArray⟩:ByteArray)++⟨([32]:Str).toArray⟩)++⟨x.op.toArray⟩)++⟨([32]:Str).toArray⟩)++⟨(wiT (r+1) (b,textE b)).toArray⟩)=_
  rw[zbD,zbD,zbD,zbD];congr 2
  simp[yM]
 have HIA:Hid (∀ W,Below w.heap.size w W→∀ ua uc,XArgs W ok (.slice ua a.xs.length uc) a.xs→Calls Tryz.prog 81 #[exV a (.slice ua a.xs.length uc),.int .i64 (l:Int)] W fun e w'=>e=.returned (.string S)∧Below W.heap.size W w'):=fun W hW ua uc hu=>by
  have:=zd4 a iha l hll ua uc W ok hu (hE.below hW) hba hla;unfold StrTo at this;rw[hS]at this;exact this
 have HIB:Hid (∀ W,Below w.heap.size w W→∀ ua uc,XArgs W ok (.slice ua b.xs.length uc) b.xs→Calls Tryz.prog 81 #[exV b (.slice ua b.xs.length uc),.int .i64 ((r:Int)+1)] W fun e w'=>e=.returned (.string T)∧Below W.heap.size W w'):=fun W hW ua uc hu=>by
  have:=zd4 b ihb (r+1) (by omega) ua uc W ok hu (hE.below hW) hbb hlb;unfold StrTo at this;rw[hT,show ((r+1:Nat):Int)=(r:Int)+1 by omega]at this;exact this
 have HR:=hid (zkB x sa ca _ (hE.below bw).r);rw[hr4]at HR;have HX:Hid (exV x (.slice sa x.xs.length ca)=.agg #[.int .i64 4,.string ⟨x.nm.toArray⟩,.int .i64 x.v.k,.int .i64 x.v.n,.string ⟨x.v.t.toArray⟩,.string Y,.slice sa 2 ca]):=by show _=_;rw[← h4,← hY,hn]
 have HXS:=hid hxs;rw[HX.out]at HR ⊢;rw[h4,hY,hn]at X HB HR;rw[hn]at hXA;clear hA hE hb hlen hY hn hr4 HT hlwa hlwb hla hlb hS hT bw h4 hxs hba hbb hbs hopl HX HA HE hr hl;have hwr:IntKind.i64.wrap ((r:Int)+1)=(r:Int)+1:=IntWalk.i64_in _ (by omega);by_cases hc:r=4
 ·have e4:(((r:Nat):Int) == 4)=true:=by simp;omega
  have hl1:(l:Int)=(r:Int)+1:=by rw[hlr,if_pos hc];omega
  rw[hl1]at HIA;have r0:(0:Int)≤(r:Int):=by omega
  have r6:(r:Int)≤6:=by omega
  clear hc hlr hl1 hll hr6;have HWR:=hid hwr;clear hwr;go_enter func46,ntmps46
  obtain ⟨x0,x1,x2,x3,x4,x5,x6⟩:=X.seven;go_wp2_with fail
  generalize w.alloc (.cells #[.int .i64 4,.string ⟨x.nm.toArray⟩,.int .i64 x.v.k,.int .i64 x.v.n,.string ⟨x.v.t.toArray⟩,.string Y,.slice sa 2 ca] 27)=W1 at *
  refine HR.out.mono ?_;rintro e w2 ⟨rfl,hb2⟩;have X2:=X.next hb2;have hw2:=two HB.out hb2;have hA2:=hXA.out w2 hw2;clear x0 x1 x2 x3 x4 x5 x6 X;obtain ⟨x0,x1,x2,x3,x4,x5,x6⟩:=X2.seven;obtain ⟨ub,uo,ua,uc,ue,ul,_,uX,uF⟩:=arg7 hA2 (show x.xs[0]?=some a by rw[HXS.out];rfl);subst ue;have u0:w2.cell? ⟨ub,uo,none⟩=some (.int .i64 a.k):=uF 0 _ rfl;have u1:w2.cell? ⟨ub,uo+1,none⟩=some (.string ⟨a.nm.toArray⟩):=uF 1 _ rfl;have u2:w2.cell? ⟨ub,uo+2,none⟩=some (.int .i64 a.v.k):=uF 2 _ rfl;have u3:w2.cell? ⟨ub,uo+3,none⟩=some (.int .i64 a.v.n):=uF 3 _ rfl;have u4:w2.cell? ⟨ub,uo+4,none⟩=some (.string ⟨a.v.t.toArray⟩):=uF 4 _ rfl;have u5:w2.cell? ⟨ub,uo+5,none⟩=some (.string ⟨a.op.toArray⟩):=uF 5 _ rfl;have u6:w2.cell? ⟨ub,uo+6,none⟩=some (.slice ua a.xs.length uc):=uF 6 _ rfl;obtain ⟨vb,vo,va,vc,ve,vl,_,vX,vF⟩:=arg7 hA2 (show x.xs[1]?=some b by rw[HXS.out];rfl)
  obtain ⟨rfl,rfl⟩:ub=vb∧uo=vo:=by injection ve with ve;injection ve with v1 v2;exact ⟨v1,v2⟩
  have v0:w2.cell? ⟨ub,uo+7,none⟩=some (.int .i64 b.k):=vF 0 _ rfl;have v1:w2.cell? ⟨ub,uo+8,none⟩=some (.string ⟨b.nm.toArray⟩):=vF 1 _ rfl;have v2:w2.cell? ⟨ub,uo+9,none⟩=some (.int .i64 b.v.k):=vF 2 _ rfl;have v3:w2.cell? ⟨ub,uo+10,none⟩=some (.int .i64 b.v.n):=vF 3 _ rfl;have v4:w2.cell? ⟨ub,uo+11,none⟩=some (.string ⟨b.v.t.toArray⟩):=vF 4 _ rfl;have v5:w2.cell? ⟨ub,uo+12,none⟩=some (.string ⟨b.op.toArray⟩):=vF 5 _ rfl;have v6:w2.cell? ⟨ub,uo+13,none⟩=some (.slice va b.xs.length vc):=vF 6 _ rfl;clear uF vF ve;go_upto_region 14 with (fail)
  have cA:=qcall (w:=w2) fun W' hb'=>HIA.out W' (two hw2 hb') ua uc (uX.below hb')
  have cB:=qcall (w:=w2) fun W' hb'=>HIB.out W' (two hw2 hb') va vc (vX.below hb')
  have hwr:=HWR.out;have x5:=cell_regrown x5;have x6:=cell_regrown x6;have u0:=cell_regrown u0;have v0:=cell_regrown v0;have u1:=cell_regrown u1;have v1:=cell_regrown v1;have u2:=cell_regrown u2;have v2:=cell_regrown v2;have u3:=cell_regrown u3;have v3:=cell_regrown v3;have u4:=cell_regrown u4;have v4:=cell_regrown v4;have u5:=cell_regrown u5;have v5:=cell_regrown v5;have u6:=cell_regrown u6;have v6:=cell_regrown v6;clear uX vX hA2 x0 x1 x2 x3 x4;refine wp_region_quiet_below (by kernel_rfl) (by kernel_rfl) ?_;repeat (go_big_quiet_step (with_reducible (first|exact cA _ _|exact cB _ _)))
  refine wpQuiet_nil ?_;intro _ hw';obtain ⟨⟨dq1,os1⟩,hw''⟩:=hw';subst hw'';go_wp2_with fail
  go_ret
  exact ⟨zcd HW.out,two hw2 (below_regrown _ _ _)⟩
 ·have e4:(((r:Nat):Int) == 4)=false:=by simp;omega
  have hl1:(l:Int)=(r:Int):=by rw[hlr,if_neg hc]
  rw[hl1]at HIA;have r0:(0:Int)≤(r:Int):=by omega
  have r6:(r:Int)≤6:=by omega
  clear hc hlr hl1 hll hr6;have HWR:=hid hwr;clear hwr;go_enter func46,ntmps46
  obtain ⟨x0,x1,x2,x3,x4,x5,x6⟩:=X.seven;go_wp2_with fail
  generalize w.alloc (.cells #[.int .i64 4,.string ⟨x.nm.toArray⟩,.int .i64 x.v.k,.int .i64 x.v.n,.string ⟨x.v.t.toArray⟩,.string Y,.slice sa 2 ca] 27)=W1 at *
  refine HR.out.mono ?_;rintro e w2 ⟨rfl,hb2⟩;have X2:=X.next hb2;have hw2:=two HB.out hb2;have hA2:=hXA.out w2 hw2;clear x0 x1 x2 x3 x4 x5 x6 X;obtain ⟨x0,x1,x2,x3,x4,x5,x6⟩:=X2.seven;obtain ⟨ub,uo,ua,uc,ue,ul,_,uX,uF⟩:=arg7 hA2 (show x.xs[0]?=some a by rw[HXS.out];rfl);subst ue;have u0:w2.cell? ⟨ub,uo,none⟩=some (.int .i64 a.k):=uF 0 _ rfl;have u1:w2.cell? ⟨ub,uo+1,none⟩=some (.string ⟨a.nm.toArray⟩):=uF 1 _ rfl;have u2:w2.cell? ⟨ub,uo+2,none⟩=some (.int .i64 a.v.k):=uF 2 _ rfl;have u3:w2.cell? ⟨ub,uo+3,none⟩=some (.int .i64 a.v.n):=uF 3 _ rfl;have u4:w2.cell? ⟨ub,uo+4,none⟩=some (.string ⟨a.v.t.toArray⟩):=uF 4 _ rfl;have u5:w2.cell? ⟨ub,uo+5,none⟩=some (.string ⟨a.op.toArray⟩):=uF 5 _ rfl;have u6:w2.cell? ⟨ub,uo+6,none⟩=some (.slice ua a.xs.length uc):=uF 6 _ rfl;obtain ⟨vb,vo,va,vc,ve,vl,_,vX,vF⟩:=arg7 hA2 (show x.xs[1]?=some b by rw[HXS.out];rfl)
  obtain ⟨rfl,rfl⟩:ub=vb∧uo=vo:=by injection ve with ve;injection ve with v1 v2;exact ⟨v1,v2⟩
  have v0:w2.cell? ⟨ub,uo+7,none⟩=some (.int .i64 b.k):=vF 0 _ rfl;have v1:w2.cell? ⟨ub,uo+8,none⟩=some (.string ⟨b.nm.toArray⟩):=vF 1 _ rfl;have v2:w2.cell? ⟨ub,uo+9,none⟩=some (.int .i64 b.v.k):=vF 2 _ rfl;have v3:w2.cell? ⟨ub,uo+10,none⟩=some (.int .i64 b.v.n):=vF 3 _ rfl;have v4:w2.cell? ⟨ub,uo+11,none⟩=some (.string ⟨b.v.t.toArray⟩):=vF 4 _ rfl;have v5:w2.cell? ⟨ub,uo+12,none⟩=some (.string ⟨b.op.toArray⟩):=vF 5 _ rfl;have v6:w2.cell? ⟨ub,uo+13,none⟩=some (.slice va b.xs.length vc):=vF 6 _ rfl;clear uF vF ve;go_upto_region 14 with (fail)
  have cA:=qcall (w:=w2) fun W' hb'=>HIA.out W' (two hw2 hb') ua uc (uX.below hb')
  have cB:=qcall (w:=w2) fun W' hb'=>HIB.out W' (two hw2 hb') va vc (vX.below hb')
  have hwr:=HWR.out;have x5:=cell_regrown x5;have x6:=cell_regrown x6;have u0:=cell_regrown u0;have v0:=cell_regrown v0;have u1:=cell_regrown u1;have v1:=cell_regrown v1;have u2:=cell_regrown u2;have v2:=cell_regrown v2;have u3:=cell_regrown u3;have v3:=cell_regrown v3;have u4:=cell_regrown u4;have v4:=cell_regrown v4;have u5:=cell_regrown u5;have v5:=cell_regrown v5;have u6:=cell_regrown u6;have v6:=cell_regrown v6;clear uX vX hA2 x0 x1 x2 x3 x4;refine wp_region_quiet_below (by kernel_rfl) (by kernel_rfl) ?_;repeat (go_big_quiet_step (with_reducible (first|exact cA _ _|exact cB _ _)))
  refine wpQuiet_nil ?_;intro _ hw';obtain ⟨⟨dq1,os1⟩,hw''⟩:=hw';subst hw'';go_wp2_with fail
  go_ret
  exact ⟨zcd HW.out,two hw2 (below_regrown _ _ _)⟩
theorem ziW:∀ l:List Str,2*l.length≤(joinS [44,32] l).length+2
 | []=>yS _
 | [a]=>by show 2*1≤_;omega
 | a::b::r=>by
  have:=ziW (b::r);show 2*(a::b::r).length≤(a++([44,32]++joinS [44,32] (b::r))).length+2
  simp only[yA,yB,yD]at this ⊢;omega
theorem zeQ:∀ (l:List Str) (a:Str),a∈l→a.length≤(joinS [44,32] l).length
 | [b],a,h=>by simp at h;subst h;exact yG _
 | b::c::r,a,h=>by
  show a.length≤(b++([44,32]++joinS [44,32] (c::r))).length
  simp only[yA];rcases List.mem_cons.1 h with rfl|h
  ·omega
  ·have:=zeQ (c::r) a h;omega
theorem zgn:∀ l:List Str,Lib.join l [44,32]=joinS [44,32] l
 | []=>rfl
 | [a]=>Lib.join_one a _
 | a::b::r=>by
  have:=zgn (b::r);show Lib.join (a::b::r) [44,32]=a++([44,32]++joinS [44,32] (b::r))
  rw[← this];unfold Lib.join List.intercalate;rw[List.intersperse_cons_cons,List.flatten_cons,List.flatten_cons]
theorem zsb:(Tryz.prog.info? 9).map (fun i=>(i.zero,i.size,i.bytes))=some (some (.string ⟨#[]⟩),1,16):=by kernel_rfl
def texts (xs:List Ex):List (List Dat):=xs.map fun a=>strD (textE a)
theorem zlg {xs:List Ex} {k:Nat} {a:Ex} (h:xs[k]?=some a):texts (xs.take (k+1))=texts (xs.take k)++[strD (textE a)]:=by
 unfold texts;rw[List.take_add_one,h,List.map_append];rfl
theorem zlh {W:World} {base g cap:Nat} {xs:List Ex} {cells:List (List Value)} (h:Own W base 9 1 (.slice (some ⟨g,0,none⟩) xs.length cap) (texts xs) cells) {j:Nat} {a:Ex} (ha:xs[j]?=some a):W.cell? ⟨g,j,none⟩=some (.string ⟨(textE a).toArray⟩):=by
 have hr:(texts xs)[j]?=some (strD (textE a)):=by unfold texts;rw[yQ,ha];rfl
 have hjl:=(yE.1 hr).1;have hc:cells[j]?=some (cells[j]'(by rw[h.len];exact hjl)):=yF _;obtain ⟨_,h2⟩:=h.row j _ _ hr hc;obtain ⟨c,r,hcr,h3,h4⟩:=h2.uncons;obtain rfl:=h4.unnil;obtain rfl:=h3.val;have:=h.at hc (j:=0) (by rw[hcr];rfl);rw[Nat.mul_one,Nat.add_zero]at this;exact this
theorem zmq (x:Ex) (h5:x.k=5) (ih:∀ a∈x.xs,TxOk a):TxOk x:=fun sa ca w ok hA hE hb hlen=>by
 have bw:Below w.heap.size w (w.alloc (.cells #[.int .i64 x.k,.string ⟨x.nm.toArray⟩,.int .i64 x.v.k,.int .i64 x.v.n,.string ⟨x.v.t.toArray⟩,.string ⟨x.op.toArray⟩,.slice sa x.xs.length ca] 27)):=(Below.refl _ w).alloc (yG _) _;have X:=Box.new w [.int .i64 x.k,.string ⟨x.nm.toArray⟩,.int .i64 x.v.k,.int .i64 x.v.n,.string ⟨x.v.t.toArray⟩,.string ⟨x.op.toArray⟩,.slice sa x.xs.length ca] 27;have HB:=hid bw;obtain ⟨i0,hi,hz0,hz1,hz2⟩:=info_parts zsb;have hbs:=((zfv x).mp hb).2.2.2.2.2;have hnl:=((zfv x).mp hb).2.2.2.1;have HT:=zrg h5;rw[zoV h5]at hlen;have hjl:(joinS [44,32] (x.xs.map textE)).length≤1000000:=by rw[HT]at hlen;simp at hlen;omega
 have hcnt:x.xs.length≤600000:=by have:=ziW (x.xs.map textE);rw[yC]at this;omega
 have HTX:=hid (fun (a:Ex) (ha:a∈x.xs) W (hW:Below w.heap.size w W) ua uc (hu:XArgs W ok (.slice ua a.xs.length uc) a.xs)=>ih a ha ua uc W ok hu (hE.below hW) (ze3 hbs a ha) (yH (yH (zeQ _ _ (List.mem_map.2 ⟨a,ha,rfl⟩)) hjl) (zkh a)));have hXA:=hid (fun W (hW:Below w.heap.size w W)=>hA.below hW);obtain ⟨N,hN⟩:∃ N:ByteArray,(⟨x.nm.toArray⟩:ByteArray)=N:=⟨_,rfl⟩;have hNs:N.size≤140737488355328:=by rw[← hN,sz_mk];exact hnl
 obtain ⟨J,hJ⟩:∃ J:ByteArray,(⟨(joinS [44,32] (x.xs.map textE)).toArray⟩:ByteArray)=J:=⟨_,rfl⟩;have hJs:J.size≤1000000:=by rw[← hJ,sz_mk];exact hjl
 have HW:Hid (((N++⟨#[40]⟩)++J)++⟨#[41]⟩=⟨(textE x).toArray⟩):=by
  show _=_
  rw[← hN,← hJ,HT];show ((((⟨x.nm.toArray⟩:ByteArray)++⟨([40]:Str).toArray⟩)++⟨(joinS [44,32] (x.xs.map textE)).toArray⟩)++⟨([41]:Str).toArray⟩)=_
  rw[zbD,zbD,zbD];congr 2
  simp[yM]
 have HJ:=hid hJ;have HJL:=hid hjl;obtain ⟨n,hn⟩:∃ n,x.xs.length=n:=⟨_,rfl⟩;have HX:Hid (exV x (.slice sa x.xs.length ca)=.agg #[.int .i64 5,.string N,.int .i64 x.v.k,.int .i64 x.v.n,.string ⟨x.v.t.toArray⟩,.string ⟨x.op.toArray⟩,.slice sa n ca]):=by show _=_;rw[← h5,← hN,← hn]
 rw[HX.out];rw[h5,hN,hn]at X HB;rw[hn]at hXA hcnt;have HN:=hid hn;clear hA hE hb hlen bw hbs hnl HT hjl hN hJ hn HX h5 ih;go_enter func46,ntmps46
 obtain ⟨x0,x1,x2,x3,x4,x5,x6⟩:=X.seven;go_wp2_with fail
 generalize w.alloc (.cells #[.int .i64 5,.string N,.int .i64 x.v.k,.int .i64 x.v.n,.string ⟨x.v.t.toArray⟩,.string ⟨x.op.toArray⟩,.slice sa n ca] 27)=W1 at *
 have hB0:=HB.out.size;go_loopw [5,103] (fun v i wr=>∃ (k:Nat) (cells:List (List Value)),k≤n∧i=.int .i64 k∧Hid (Own wr W1.heap.size 9 1 v (texts (x.xs.take k)) cells)∧Hid (Below W1.heap.size W1 wr)) (fun _ i _=>n-(intOf i).toNat)
 case atStart=>exact ⟨0,[],yS _,rfl,Own.nil _ _ _ _,Below.refl _ _⟩
 case round =>
  obtain ⟨k,cells,hk,rfl,HO,HBW⟩:=hrel;have hw1:=HB.out.trans (HBW.out.mono hB0);have hz1s:=HBW.out.size;obtain ⟨ao,cp,hform⟩:=HO.out.form;rw[hform]at HO ⊢;by_cases hlt:k<n
  ·obtain ⟨a,ha⟩:∃ a,x.xs[k]?=some a:=⟨_,yF (by rw[HN.out];exact hlt)⟩;have hA2:=hXA.out wr hw1;obtain ⟨ub,uo,ua,uc,rfl,ul,_,uX,uF⟩:=arg7 hA2 ha;have u0:=uF 0 _ rfl;have u1:=uF 1 _ rfl;have u2:=uF 2 _ rfl;have u3:=uF 3 _ rfl;have u4:=uF 4 _ rfl;have u5:=uF 5 _ rfl;have u6:=uF 6 _ rfl;rw[Nat.add_zero]at u0;have bwa:Below wr.heap.size wr (wr.alloc (.cells #[.int .i64 a.k,.string ⟨a.nm.toArray⟩,.int .i64 a.v.k,.int .i64 a.v.n,.string ⟨a.v.t.toArray⟩,.string ⟨a.op.toArray⟩,.slice ua a.xs.length uc] 27)):=(Below.refl _ wr).alloc (yG _) _;have HTA:=hid (HTX.out a (yP ha) _ (two hw1 bwa) ua uc (uX.below bwa));obtain ⟨T,hT⟩:∃ T:ByteArray,(⟨(textE a).toArray⟩:ByteArray)=T:=⟨_,rfl⟩;unfold StrTo at HTA;rw[hT]at HTA;have HTK:=hid (zlg ha)
   have HR:Hid (∀ W (o:Nat→Prop),Row W o (strD (textE a)) [.string T]):=fun W o=>by rw[← hT];exact (Row.nil W o).cons (.v _ rfl)
   have hrl:(texts (x.xs.take k)).length=k:=by unfold texts;rw[yC,List.length_take,HN.out];omega
   have HRL:=hid hrl;rw[hrl]at hform HO;have HOW:=hid (HO.out.kept (S:=fun _=>False) (Kept.of_below bwa) (fun _ _ h=>h));have HBA:=hid (HBW.out.trans (bwa.mono hz1s));try rw[hrl]
   clear hA2 uX uF ha bwa hT hrl HO hform;go_wp2_with (first|(go_at_call 46;refine HTA.out.mono ?_;rintro e w2 ⟨rfl,hb2⟩)|(at_builtin;refine zsu rfl (.tmp 107) (.tmp 110) 48 9 rfl underlying48 hi hz0 hz1 hz2 rfl (by decide) (by decide) W1.heap.size (.slice ao k cp) (texts (x.xs.take k)) cells (strD (textE a)) [.string T] #[.string T] rfl (HOW.out.kept (S:=fun _=>False) (Kept.of_below hb2) (fun _ _ h=>h)) rfl (HR.out _ _) rfl rfl (by rw[HRL.out];omega) (by have:=HBA.out.size;have:=hb2.size;omega) ?_;intro v1 w3 hown1 hg1))
   have hb3:Below W1.heap.size W1 w2:=HBA.out.trans (hb2.mono HBA.out.size);go_roundw
   case rel=>exact ⟨k+1,cells++[[.string T]],by omega,by go_num,(by rw[HTK.out];exact hown1),hb3.grown hg1 hb3.size (fun j e=>(HOW.out.lt j e).1)⟩
   case measure=>simp[intOf];omega
  ·obtain rfl:k=n:=by omega
   have htk:x.xs.take k=x.xs:=by rw[← HN.out,List.take_length]
   have hrl:(texts (x.xs.take k)).length=k:=by rw[htk];unfold texts;rw[yC,HN.out]
   rw[hrl]at HO ⊢;rw[htk]at HO;have X3:=X.next HBW.out;clear x0 x1 x2 x3 x4 x5 x6 hform htk hrl;obtain ⟨x0,x1,x2,x3,x4,x5,x6⟩:=X3.seven;have hJW:∀ W,Below wr.heap.size wr W→Calls Tryz.prog 84 #[.slice ao k cp,.string ⟨#[44,32]⟩] W fun e w'=>e=.returned (.string J)∧Below W.heap.size W w':=fun W hW=>by
    by_cases h0:k=0
    ·have hxs:x.xs=[]:=List.eq_nil_of_length_eq_zero (by rw[HN.out];exact h0);have hJ0:J=⟨#[]⟩:=by rw[← HJ.out,hxs];rfl
     rw[h0,hJ0];refine (Tryz.strings_Join_none ao cp ⟨#[44,32]⟩ W).mono ?_;rintro e w' ⟨he,rfl⟩;exact ⟨he,Below.refl _ _⟩
    ·have hOW:=HO.out.kept (S:=fun _=>False) (Kept.of_below hW) (fun _ _ h=>h);rcases hOW.own.2 with ⟨_,h1⟩|⟨g,cap,cur,hv,hg,hh,h3,h4,h5,h6⟩
     ·exact absurd (by unfold texts at h1;rw[yC,HN.out]at h1;exact h1) h0
     ·injection hv with v1 v2 v3
      subst v1 v3;have hgl:=(hOW.lt g rfl).2;have hO2:Own W W1.heap.size 9 1 (.slice (some ⟨g,0,none⟩) x.xs.length cp) (texts x.xs) cells:=by rw[HN.out];exact hOW
      have h3':k≤cp:=by unfold texts at h3;rw[yC,HN.out]at h3;exact h3
      have hjoin:Lib.join ((x.xs.map fun a=>(⟨(textE a).toArray⟩:ByteArray)).map (·.data.toList)) (⟨#[44,32]⟩:ByteArray).data.toList=joinS [44,32] (x.xs.map textE):=by
       rw[List.map_map];exact zgn (x.xs.map textE)
      have hlen:(x.xs.map fun a=>(⟨(textE a).toArray⟩:ByteArray)).length=k:=by rw[yC,HN.out]
      have:=Tryz.strings_Join g 0 cp (x.xs.map fun a=>(⟨(textE a).toArray⟩:ByteArray)) ⟨#[44,32]⟩ W (fun j y hj=>by
       rw[yQ]at hj
       cases ha:x.xs[j]? with
       | none=>rw[ha]at hj;cases hj
       | some a =>
        rw[ha]at hj;obtain rfl:=Option.some.inj hj;rw[Nat.zero_add];exact zlh hO2 ha) hgl (by rw[hlen];omega) (by rw[hlen];exact h3') (by rw[hjoin];have:=HJL.out;omega)
      rw[hlen,hjoin,HJ.out]at this;exact this
   have cA:=qcall (w:=wr) hJW;go_upto_region 22 with (fail)
   have x1:=cell_regrown x1;clear x0 x2 x3 x4 x5 x6 hJW;refine wp_region_quiet_below (by kernel_rfl) (by kernel_rfl) ?_;repeat (go_big_quiet_step (with_reducible (exact cA _ _)))
   refine wpQuiet_nil ?_;intro _ hw';obtain ⟨⟨dq1,os1⟩,hw''⟩:=hw';subst hw'';go_wp2_with fail
   go_ret
   exact ⟨zcd HW.out,two hw1 (below_regrown _ _ _)⟩
theorem zmp (x:Ex) (ih:∀ a∈x.xs,TxOk a):TxOk x:=by
 by_cases h1:x.k=1
 ·exact zig x (.inl h1)
 by_cases h2:x.k=2
 ·exact zig x (.inr h2)
 by_cases h3:x.k=3
 ·match hxs:x.xs with
  | [a]=>exact zo5 x a h3 hxs (ih a (by rw[hxs];simp))
  | []=>exact zdp x (.inl ⟨h3,by rw[hxs];simp⟩)
  | a::b::r=>exact zdp x (.inl ⟨h3,by rw[hxs];simp⟩)
 by_cases h4:x.k=4
 ·match hxs:x.xs with
  | [a,b]=>exact zo4 x a b h4 hxs (ih a (by rw[hxs];simp)) (ih b (by rw[hxs];simp))
  | []=>exact zdp x (.inr (.inl ⟨h4,by rw[hxs];simp⟩))
  | [a]=>exact zdp x (.inr (.inl ⟨h4,by rw[hxs];simp⟩))
  | a::b::c::r=>exact zdp x (.inr (.inl ⟨h4,by rw[hxs];simp⟩))
 by_cases h5:x.k=5
 ·exact zmq x h5 ih
 exact zdp x (.inr (.inr ⟨h1,h2,h3,h4,h5⟩))
theorem text_any:∀ x,TxOk x:=Ex.ind fun k nm v op xs h=>zmp (.mk k nm v op xs) h
instance:DecidableEq Ex:=fun x y=>decidable_of_iff (eqE x y=true) (zet x y)
def showE (x:Ex):Str×Int:=if (zbR (textE x)).2.2=0∧(zbR (textE x)).1=x then (textE x,0) else ([],20)
def zjj (r:Str×Int) (w:World) (e:Ending) (w':World):Prop:=e=.returned (.tuple #[.string ⟨r.1.toArray⟩,.int .i64 r.2])∧Below w.heap.size w w'
theorem XArgs.all {W:World} {ok:Nat→Prop} {sl:Value} {xs:List Ex} (h:XArgs W ok sl xs):XArgs W (fun _=>True) sl xs:=Rep.weak (fun _ _ _=>trivial) h
theorem zmy (x:Ex) (sa:Option Addr) (ca:Nat) (w:World) (ok:Nat→Prop) (hA:XArgs w ok (.slice sa x.xs.length ca) x.xs) (hE:EnvX w) (hb:BdE x) (hlen:(textE x).length≤LimE x) :
 Calls Tryz.prog 16 #[exV x (.slice sa x.xs.length ca)] w (zjj (showE x) w):=by
 have bw:Below w.heap.size w (w.alloc (.cells #[.int .i64 x.k,.string ⟨x.nm.toArray⟩,.int .i64 x.v.k,.int .i64 x.v.n,.string ⟨x.v.t.toArray⟩,.string ⟨x.op.toArray⟩,.slice sa x.xs.length ca] 27)):=(Below.refl _ w).alloc (yG _) _;have X:=Box.new w [.int .i64 x.k,.string ⟨x.nm.toArray⟩,.int .i64 x.v.k,.int .i64 x.v.n,.string ⟨x.v.t.toArray⟩,.string ⟨x.op.toArray⟩,.slice sa x.xs.length ca] 27;have HB:=hid bw;have HT:=hid (text_any x sa ca _ ok (hA.below bw) (hE.below bw) hb hlen);have HXA:=hid (fun W (hW:Below w.heap.size w W)=>(hA.below hW).all);obtain ⟨S,hS⟩:∃ S:ByteArray,(⟨(textE x).toArray⟩:ByteArray)=S:=⟨_,rfl⟩;obtain ⟨r,hr⟩:∃ r,zbR (textE x)=r:=⟨_,rfl⟩;have HP:=hid (fun W (hW:Below w.heap.size w W)=>zkX ⟨(textE x).toArray⟩ W (hE.below hW).l)
 have hSH:showE x=if r.2.2=0∧r.1=x then (textE x,0) else ([],20):=by unfold showE;rw[hr]
 unfold StrTo at HT;have HP2:Hid (∀ W,Below w.heap.size w W→Calls Tryz.prog 15 #[.string S] W (zq4 r W)):=fun W hW=>by
  have:=HP.out W hW;rw[zrX,hr,hS]at this;exact this
 rw[hS]at HT;obtain ⟨y,at0,er⟩:=r;have HQ:=hid (zdY y);have HEQ:=hid (zet y x);obtain ⟨q,hq⟩:∃ q,eqE y x=q:=⟨_,rfl⟩;unfold EqOk EqTo at HQ;have HSS:=hid hS;by_cases he:er=0
 ·subst he;have hs2:showE x=if q=true then (textE x,0) else ([],20):=by
   rw[hSH];have hyx:y=x↔q=true:=by rw[← hq];exact HEQ.out.symm
   by_cases h:q=true
   ·rw[if_pos ⟨rfl,hyx.2 h⟩,if_pos h]
   ·rw[if_neg (fun h2=>h (hyx.1 h2.2)),if_neg h]
  have HSH:=hid hs2;have HEQ2:=hid hq;clear hA hE hb hlen bw hS hr HP hSH hs2 hq HEQ
  cases q with
  | true =>
   have HSH2:Hid (showE x=(textE x,0)):=by show _=_;rw[HSH.out];rfl
   clear HSH;go_enter func16,ntmps16
   obtain ⟨x0,x1,x2,x3,x4,x5,x6⟩:=X.seven
   go_wp2_with (first|(go_at_call 46;refine HT.out.mono ?_;rintro e w1 ⟨rfl,hb1⟩)|(go_at_call 15;refine (HP2.out _ (two HB.out hb1)).mono ?_;rintro e w2 ⟨ya,yc,rfl,hY,hb2⟩;have hbY:=two (two HB.out hb1) hb2;have X2:=((X.next hb1).next hb2).alloc (.cells #[.int .i64 y.k,.string ⟨y.nm.toArray⟩,.int .i64 y.v.k,.int .i64 y.v.n,.string ⟨y.v.t.toArray⟩,.string ⟨y.op.toArray⟩,.slice ya y.xs.length yc] 27);have Y2:=Box.new w2 [.int .i64 y.k,.string ⟨y.nm.toArray⟩,.int .i64 y.v.k,.int .i64 y.v.n,.string ⟨y.v.t.toArray⟩,.string ⟨y.op.toArray⟩,.slice ya y.xs.length yc] 27;have bwY:=(Below.refl w2.heap.size w2).alloc (yG _) (.cells #[.int .i64 y.k,.string ⟨y.nm.toArray⟩,.int .i64 y.v.k,.int .i64 y.v.n,.string ⟨y.v.t.toArray⟩,.string ⟨y.op.toArray⟩,.slice ya y.xs.length yc] 27);have hY2:=(hY.below bwY).all;have hX2:=HXA.out _ (two hbY bwY);obtain ⟨y0,y1,y2,y3,y4,y5,y6⟩:=Y2.seven;obtain ⟨z0,z1,z2,z3,z4,z5,z6⟩:=X2.seven)|(go_at_call 19;have hc:=HQ.out x ya sa yc ca _ (fun _=>True) hY2 hX2;rw[HEQ2.out]at hc;refine hc.mono ?_;clear hc;rintro e w3 ⟨rfl,hb3⟩))
   go_ret2
   unfold zjj;rw[HSH2.out];exact ⟨by rw[HSS.out];rfl,two (two hbY bwY) hb3⟩
  | false =>
   have HSH2:Hid (showE x=([],20)):=by show _=_;rw[HSH.out];rfl
   clear HSH;go_enter func16,ntmps16
   obtain ⟨x0,x1,x2,x3,x4,x5,x6⟩:=X.seven
   go_wp2_with (first|(go_at_call 46;refine HT.out.mono ?_;rintro e w1 ⟨rfl,hb1⟩)|(go_at_call 15;refine (HP2.out _ (two HB.out hb1)).mono ?_;rintro e w2 ⟨ya,yc,rfl,hY,hb2⟩;have hbY:=two (two HB.out hb1) hb2;have X2:=((X.next hb1).next hb2).alloc (.cells #[.int .i64 y.k,.string ⟨y.nm.toArray⟩,.int .i64 y.v.k,.int .i64 y.v.n,.string ⟨y.v.t.toArray⟩,.string ⟨y.op.toArray⟩,.slice ya y.xs.length yc] 27);have Y2:=Box.new w2 [.int .i64 y.k,.string ⟨y.nm.toArray⟩,.int .i64 y.v.k,.int .i64 y.v.n,.string ⟨y.v.t.toArray⟩,.string ⟨y.op.toArray⟩,.slice ya y.xs.length yc] 27;have bwY:=(Below.refl w2.heap.size w2).alloc (yG _) (.cells #[.int .i64 y.k,.string ⟨y.nm.toArray⟩,.int .i64 y.v.k,.int .i64 y.v.n,.string ⟨y.v.t.toArray⟩,.string ⟨y.op.toArray⟩,.slice ya y.xs.length yc] 27);have hY2:=(hY.below bwY).all;have hX2:=HXA.out _ (two hbY bwY);obtain ⟨y0,y1,y2,y3,y4,y5,y6⟩:=Y2.seven;obtain ⟨z0,z1,z2,z3,z4,z5,z6⟩:=X2.seven)|(go_at_call 19;have hc:=HQ.out x ya sa yc ca _ (fun _=>True) hY2 hX2;rw[HEQ2.out]at hc;refine hc.mono ?_;clear hc;rintro e w3 ⟨rfl,hb3⟩))
   go_ret2
   unfold zjj;rw[HSH2.out];exact ⟨rfl,two (two hbY bwY) hb3⟩
 ·have HSH:Hid (showE x=([],20)):=by show showE x=_;rw[hSH,if_neg (fun h=>he h.1)]
  have hne:(er != 0)=true:=by simpa using he
  have heq:(er == 0)=false:=by simpa using he
  clear hA hE hb hlen bw hS hr HP hSH hq HEQ he;go_enter func16,ntmps16
  obtain ⟨x0,x1,x2,x3,x4,x5,x6⟩:=X.seven;go_wp2_with (first|(go_at_call 46;refine HT.out.mono ?_;rintro e w1 ⟨rfl,hb1⟩)|(go_at_call 15;refine (HP2.out _ (two HB.out hb1)).mono ?_;rintro e w2 ⟨ya,yc,rfl,hY,hb2⟩;have hbY:=two (two HB.out hb1) hb2;have bwY:=(Below.refl w2.heap.size w2).alloc (yG _) (.cells #[.int .i64 y.k,.string ⟨y.nm.toArray⟩,.int .i64 y.v.k,.int .i64 y.v.n,.string ⟨y.v.t.toArray⟩,.string ⟨y.op.toArray⟩,.slice ya y.xs.length yc] 27)))
  go_ret2
  unfold zjj;rw[HSH.out];exact ⟨rfl,two hbY bwY⟩
end Go.Proofs.YtonkjhmkppeagaaGreatDoor.Pz
namespace Go.Proofs.YtonkjhmkppeagaaGreatDoor.Pz
open Go.Proofs.Tryz
open Go.Lib (hid)
open Go Go.RowKit Lx
theorem zkj {x:Ex} (h:(textE x).length+1≤zbb x) (k:Nat):(wiT k (x,textE x)).length+1≤zbV k x:=by
 unfold wiT zbV wiW;simp only;split
 ·simp only[yB,yA,yD];omega
 ·exact h
theorem ztj {x:Ex} (h:(textE x).length+1≤zbb x):(miT (x,textE x)).length+1≤miW (x,zbb x):=by
 unfold miT miW;split
 ·simp only[yB,yA,yD];omega
 ·exact zkj h 7
theorem zkS:∀ (xs:List Ex),(∀ x∈xs,(textE x).length+1≤zbb x)→(joinS [44,32] (xs.map textE)).length≤(xs.map fun a=>zbb a+2).sum
 | [],_=>yS _
 | [x],h=>by
  have:=h x (by simp);show (textE x).length≤_
  simp;omega
 | x::y::l,h=>by
  have ih:=zkS (y::l) (fun z hz=>h z (by simp[hz]));have:=h x (by simp);show ((textE x)++([44,32]++joinS [44,32] ((y::l).map textE))).length≤_
  rw[List.map_cons (f:=fun a=>zbb a+2),List.sum_cons];simp only[yA,yB,yD];omega
theorem ze6:∀ x,OkE x→(textE x).length+1≤zbb x:=by
 intro x;refine Ex.ind (P:=fun x=>OkE x→(textE x).length+1≤zbb x) ?_ x;intro k nm v op xs ih ok;generalize hx:Ex.mk k nm v op xs=x at ok
 cases ok with
 | col n h=>rw[zij,zg6];exact yG _
 | null=>rw[zcu,zcJ,zgK];decide
 | num n h0 h1 =>
  rw[zcu,zcJ,zio];unfold zft;rw[if_pos rfl];split
  ·rename_i hn
   change n<0 at hn
   rw[ziY hn,yB];show _≤(Lib.itoa (-n)).length+3
   omega
  ·exact yG _
 | txt t h=>rw[zcu,zcJ,zf1 h];exact yG _
 | not a h =>
  have:=zkj (ih a (by cases hx;simp) h) 3;rw[zih,zg4,yA,yB];show 3+_+1≤_
  omega
 | neg a h =>
  have:=ztj (ih a (by cases hx;simp) h);rw[zii,zg5,yA];show 1+_+1≤_
  omega
 | bin op' a b ho h1 h2 =>
  have ha:=zkj (ih a (by cases hx;simp) h1) (leftR op');have hb:=zkj (ih b (by cases hx;simp) h2) (zaH op'+1);rw[zik,zg7];simp only[yA,yB];omega
 | call n xs' h h0 hxs =>
  have:=zkS xs' (fun z hz=>ih z (by cases hx;exact hz) (hxs z hz));rw[zgI,zgp];simp only[yA,yB,yD];omega
theorem zj0 {x:Ex} (ok:OkE x) (hd:deepE x+1≤32) (hl:(textE x).length≤16384):zbR (textE x)=(x,(textE x).length,0):=by
 have hw:=zqE x ok [] [] RdT.nil Cl.nil;rw[List.append_nil,List.append_nil]at hw;obtain ⟨ts,q,h1,h2⟩:=hw 0;have hlex:lexS (textE x)=(ts,q,0):=by unfold lexS;rw[if_neg (by omega)];exact h1
 have hat:At (openP (textE x)) (tkE x++[]):=by
  unfold openP;rw[hlex,List.append_nil];exact ⟨rfl,h2⟩
 have hb:=ze4 ok hd hat (fun o ho=>by cases ho);have hlen:ts.length=(tkE x).length:=by rw[← h2,yC]
 have hall:allP (advN (openP (textE x)) (tkE x).length)=advN (openP (textE x)) (tkE x).length:=zdA (by
  show ¬ (0+(tkE x).length<(lexS (textE x)).1.length)
  rw[hlex];simp only;omega)
 rw[zfj,hb];unfold allR;simp only;rw[hall,if_pos (by show (lexS (textE x)).2.2=0;rw[hlex])];rfl
theorem zmf (l:List UInt8):Wt (openP l)≤2*l.length:=by
 unfold Wt openP;simp only[List.drop_zero];unfold lexS;split
 ·simp
 ·obtain ⟨_,h2,h3⟩:=zkM l.length l 0 (yG _);have:∀ ts:List Tok,(ts.map fun t=>(sh t).length+1).sum=(ts.map fun t=>(sh t).length).sum+ts.length:=by
   intro ts;induction ts with
   | nil=>rfl
   | cons t r ih=>simp only[List.map_cons,List.sum_cons,yB,ih];omega
  rw[this];omega
theorem zi4 {l:List UInt8} (h:(zbR l).2.2=0):OkE (zbR l).1∧deepE (zbR l).1+1≤32∧(textE (zbR l).1).length+1≤2*l.length∧(zbR l).2.1=l.length:=by
 rw[zfj]at h ⊢;unfold allR at h ⊢;by_cases he:(allP (zak (openP l)).2).e=0
 ·rw[if_pos he];simp only;have hs:(zak (openP l)).2.e=0:=by
   apply Classical.byContradiction;intro hn;rw[zdj hn]at he;exact hn he
  obtain ⟨h1,h2,h3⟩:=zhu (openP l) (zjn l).2.2 hs;have h4:=ze6 _ h1;have h5:=zmf l;refine ⟨h1,h2,by omega,?_⟩;rw[(zdt (openP l)).E];rfl
 ·rw[if_neg he]at h;exact absurd h he
theorem zi5 {l:List UInt8} (hl:l.length≤8192) (h:(zbR l).2.2=0):zbR (textE (zbR l).1)=((zbR l).1,(textE (zbR l).1).length,0):=by
 obtain ⟨h1,h2,h3,_⟩:=zi4 h;exact zj0 h1 h2 (by omega)
theorem zpf {x:Ex} (h:zbR (textE x)=(x,(textE x).length,0)):showE x=(textE x,0):=by unfold showE;rw[h,if_pos ⟨rfl,rfl⟩]
theorem zoE:∀ xs:List Ex,(∀ a∈xs,BdE a)→BdEs xs
 | [],_=>by rw[BdEs];trivial
 | x::r,h=>by rw[BdEs];exact ⟨h x (by simp),zoE r (fun a ha=>h a (by simp[ha]))⟩
theorem zkK {n:Str} (h:zdk n):n.length≤140737488355328:=by
 rcases h.1 with ⟨_,_,_,_,h4⟩|⟨h1,_⟩|⟨h1,_⟩|⟨h1,_⟩
 ·exact yH h4 (by decide)
 ·exact absurd h1 (by show ¬ (1:Int)=2;decide)
 ·exact absurd h1 (by show ¬ (1:Int)=3;decide)
 ·exact absurd h1 (by show ¬ (1:Int)=4;decide)
theorem zti:∀ x:Ex,OkE x→BdE x:=by
 intro x;refine Ex.ind (P:=fun x=>OkE x→BdE x) ?_ x;intro k nm v op xs ih ok;generalize hx:Ex.mk k nm v op xs=x at ok;have hsub:∀ l:List Ex,xs=l→(∀ a∈l,OkE a)→BdEs l:=fun l e h=>zoE l fun a ha=>ih a (by rw[e];exact ha) (h a ha)
 have z0:BdEs []:=by rw[BdEs];trivial
 rw[zfv]
 cases ok with
 | col n h=>exact ⟨by show (-9223372036854775808:Int)≤0;decide,by show (0:Int)≤9223372036854775807;decide,yS _,zkK h,yS _,z0⟩
 | null=>exact ⟨by show (-9223372036854775808:Int)≤0;decide,by show (0:Int)≤9223372036854775807;decide,yS _,yS _,yS _,z0⟩
 | num n h0 h1=>exact ⟨by show (-9223372036854775808:Int)≤n;omega,h1,yS _,yS _,yS _,z0⟩
 | txt t h =>
  refine ⟨by show (-9223372036854775808:Int)≤0;decide,by show (0:Int)≤9223372036854775807;decide,?_,yS _,yS _,z0⟩;rcases h with ⟨h1,_⟩|⟨h1,_⟩|⟨_,_,h2,_⟩|⟨h1,_⟩
  ·exact absurd h1 (by show ¬ (3:Int)=1;decide)
  ·exact absurd h1 (by show ¬ (3:Int)=2;decide)
  ·exact yH h2 (by decide)
  ·exact absurd h1 (by show ¬ (3:Int)=4;decide)
 | not a h=>exact ⟨by show (-9223372036854775808:Int)≤0;decide,by show (0:Int)≤9223372036854775807;decide,yS _,yS _,by show (3:Nat)≤_;decide,hsub [a] (by cases hx;rfl) (fun z hz=>by simp at hz;subst hz;exact h)⟩
 | neg a h=>exact ⟨by show (-9223372036854775808:Int)≤0;decide,by show (0:Int)≤9223372036854775807;decide,yS _,yS _,by show (1:Nat)≤_;decide,hsub [a] (by cases hx;rfl) (fun z hz=>by simp at hz;subst hz;exact h)⟩
 | bin op' a b ho h1 h2 =>
  refine ⟨by show (-9223372036854775808:Int)≤0;decide,by show (0:Int)≤9223372036854775807;decide,yS _,yS _,?_,hsub [a,b] (by cases hx;rfl) (fun z hz=>by simp at hz;rcases hz with rfl|rfl;exact h1;exact h2)⟩;show op'.length≤140737488355328
  apply Classical.byContradiction;intro hn;apply ho;unfold zaH;rw[if_neg (fun e=>hn (by rw[e];decide)),if_neg (fun e=>hn (by rw[e];decide)),if_neg (fun e=>hn ((by decide:∀ o∈zcr,o.length≤140737488355328) _ e)),if_neg (fun e=>hn ((by decide:∀ o∈zbZ,o.length≤140737488355328) _ e)),if_neg (fun e=>hn ((by decide:∀ o∈zbp,o.length≤140737488355328) _ e))]
 | call n xs' h h0 hxs=>exact ⟨by show (-9223372036854775808:Int)≤0;decide,by show (0:Int)≤9223372036854775807;decide,yS _,zkK h,yS _,hsub xs' (by cases hx;rfl) hxs⟩
