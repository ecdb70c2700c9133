/- Walks: the text of an operation of two. Walks: the text of a call; of any expression. Walks: the text of an expression, or that it has none. The plain law of expressions: what is read has a text that tells it again. -/
import Derived.Test.YtonkjhmkppeagaaGreatDoorTTxA
import Derived.Test.YtonkjhmkppeagaaGreatDoorShelf
import Derived.Test.YtonkjhmkppeagaaGreatDoorTTree
set_option linter.unusedVariables false
set_option linter.unusedSimpArgs false
namespace Go.Proofs.YtonkjhmkppeagaaGreatDoor.Pz
open Go.RowKit Go Go.Sort Ba Lx
set_option maxRecDepth 100000 in
set_option maxHeartbeats 6400000 in
theorem text_two (x a b:Ex) (h4:x.k=4) (hxs:x.xs=[a,b]) (iha:TxOk a) (ihb:TxOk b):TxOk x:=fun sa ca w ok hA hE hb hlen=>by
 have bw:Below w.heap.size w (w.alloc (.cells #[.int .i64 x.k,.string ⟨x.nm.toArray⟩,.int .i64 x.v.k,.int .i64 x.v.n,.string ⟨x.v.t.toArray⟩,.string ⟨x.op.toArray⟩,.slice sa x.xs.length ca] 27)):=(Below.refl _ w).alloc (Nat.le_refl _) _
 have X:=Box.new w [.int .i64 x.k,.string ⟨x.nm.toArray⟩,.int .i64 x.v.k,.int .i64 x.v.n,.string ⟨x.v.t.toArray⟩,.string ⟨x.op.toArray⟩,.slice sa x.xs.length ca] 27
 have HB:=Lib.hid bw
 have hbs:=((BdE_eq x).mp hb).2.2.2.2.2
 have hba:BdE a:=BdEs_mem hbs a (by rw [hxs];simp)
 have hbb:BdE b:=BdEs_mem hbs b (by rw [hxs];simp)
 have hopl:=((BdE_eq x).mp hb).2.2.2.2.1
 have HA:=Lib.hid hA
 have HE:=Lib.hid hE
 have hXA:=Lib.hid (fun W (hW:Below w.heap.size w W)=>hA.below hW)
 obtain ⟨Y,hY⟩:∃ Y:ByteArray,(⟨x.op.toArray⟩:ByteArray)=Y:=⟨_,rfl⟩
 have hYs:Y.size≤1000000:=by rw [← hY,sz_mk];exact hopl
 have hn:x.xs.length=2:=by rw [hxs];rfl
 have hr4:rankE x=rankOp x.op:=rankE_4 h4
 have hr6:=rankOp_le x.op
 have HT:=textE_4 h4 hxs
 obtain ⟨r,hr⟩:∃ r,rankOp x.op=r:=⟨_,rfl⟩
 obtain ⟨l,hl⟩:∃ l,leftR x.op=l:=⟨_,rfl⟩
 have hlr:l=if r=4 then 5 else r:=by rw [← hl,← hr];rfl
 rw [hr] at hr4 hr6 HT
 rw [hl] at HT
 have hll:l≤100:=by rw [hlr];split<;>omega
 have hlwa:(wiT l (a,textE a)).length≤1000000:=by rw [HT] at hlen;simp at hlen;omega
 have hlwb:(wiT (r+1) (b,textE b)).length≤1000000:=by rw [HT] at hlen;simp at hlen;omega
 have hla:(textE a).length≤1000000:=Nat.le_trans (wiT_len l (a,textE a)) hlwa
 have hlb:(textE b).length≤1000000:=Nat.le_trans (wiT_len (r+1) (b,textE b)) hlwb
 obtain ⟨S,hS⟩:∃ S:ByteArray,(⟨(wiT l (a,textE a)).toArray⟩:ByteArray)=S:=⟨_,rfl⟩
 obtain ⟨T,hT⟩:∃ T:ByteArray,(⟨(wiT (r+1) (b,textE b)).toArray⟩:ByteArray)=T:=⟨_,rfl⟩
 have hSs:S.size≤1000000:=by rw [← hS,sz_mk];exact hlwa
 have hTs:T.size≤1000000:=by rw [← hT,sz_mk];exact hlwb
 have HW:Hid ((((S++⟨#[32]⟩)++Y)++⟨#[32]⟩)++T=⟨(textE x).toArray⟩):=by
  show _=_
  rw [← hS,← hT,← hY,HT]
  show (((((⟨(wiT l (a,textE a)).toArray⟩:ByteArray)++⟨([32]:Str).toArray⟩)++⟨x.op.toArray⟩)++⟨([32]:Str).toArray⟩)++⟨(wiT (r+1) (b,textE b)).toArray⟩)=_
  rw [app_mk,app_mk,app_mk,app_mk]
  congr 2
  simp [List.append_assoc]
 have HIA:Hid (∀ W,Below w.heap.size w W→∀ ua uc,XArgs W ok (.slice ua a.xs.length uc) a.xs→Calls Tryz.prog 81 #[exV a (.slice ua a.xs.length uc),.int .i64 (l:Int)] W fun e w'=>e=.returned (.string S)∧Below W.heap.size W w'):=fun W hW ua uc hu=>by
  have:=within_any a iha l hll ua uc W ok hu (hE.below hW) hba hla
  unfold StrTo at this
  rw [hS] at this
  exact this
 have HIB:Hid (∀ W,Below w.heap.size w W→∀ ua uc,XArgs W ok (.slice ua b.xs.length uc) b.xs→Calls Tryz.prog 81 #[exV b (.slice ua b.xs.length uc),.int .i64 ((r:Int)+1)] W fun e w'=>e=.returned (.string T)∧Below W.heap.size W w'):=fun W hW ua uc hu=>by
  have:=within_any b ihb (r+1) (by omega) ua uc W ok hu (hE.below hW) hbb hlb
  unfold StrTo at this
  rw [hT,show ((r+1:Nat):Int)=(r:Int)+1 by omega] at this
  exact this
 have HR:=Lib.hid (rank_any x sa ca _ (hE.below bw).r)
 rw [hr4] at HR
 have HX:Hid (exV x (.slice sa x.xs.length ca)=.agg #[.int .i64 4,.string ⟨x.nm.toArray⟩,.int .i64 x.v.k,.int .i64 x.v.n,.string ⟨x.v.t.toArray⟩,.string Y,.slice sa 2 ca]):=by show _=_;rw [← h4,← hY,hn]
 have HXS:=Lib.hid hxs
 rw [HX.out] at HR ⊢
 rw [h4,hY,hn] at X HB HR
 rw [hn] at hXA
 clear hA hE hb hlen hY hn hr4 HT hlwa hlwb hla hlb hS hT bw h4 hxs hba hbb hbs hopl HX HA HE hr hl
 have hwr:IntKind.i64.wrap ((r:Int)+1)=(r:Int)+1:=IntWalk.i64_in _ (by omega)
 by_cases hc:r=4
 ·have e4:(((r:Nat):Int) == 4)=true:=by simp;omega
  have hl1:(l:Int)=(r:Int)+1:=by rw [hlr,if_pos hc];omega
  rw [hl1] at HIA
  have r0:(0:Int)≤(r:Int):=by omega
  have r6:(r:Int)≤6:=by omega
  clear hc hlr hl1 hll hr6
  have HWR:=Lib.hid hwr
  clear hwr
  go_enter Tryz.func46,Tryz.ntmps46
  obtain ⟨x0,x1,x2,x3,x4,x5,x6⟩:=X.seven
  go_wp2_with fail
  generalize w.alloc (.cells #[.int .i64 4,.string ⟨x.nm.toArray⟩,.int .i64 x.v.k,.int .i64 x.v.n,.string ⟨x.v.t.toArray⟩,.string Y,.slice sa 2 ca] 27)=W1 at *
  refine HR.out.mono ?_
  rintro e w2 ⟨rfl,hb2⟩
  have X2:=X.next hb2
  have hw2:=two HB.out hb2
  have hA2:=hXA.out w2 hw2
  clear x0 x1 x2 x3 x4 x5 x6 X
  obtain ⟨x0,x1,x2,x3,x4,x5,x6⟩:=X2.seven
  obtain ⟨ub,uo,ua,uc,ue,ul,_,uX,uF⟩:=arg7 hA2 (show x.xs[0]?=some a by rw [HXS.out];rfl)
  subst ue
  have u0:w2.cell? ⟨ub,uo,none⟩=some (.int .i64 a.k):=uF 0 _ rfl
  have u1:w2.cell? ⟨ub,uo+1,none⟩=some (.string ⟨a.nm.toArray⟩):=uF 1 _ rfl
  have u2:w2.cell? ⟨ub,uo+2,none⟩=some (.int .i64 a.v.k):=uF 2 _ rfl
  have u3:w2.cell? ⟨ub,uo+3,none⟩=some (.int .i64 a.v.n):=uF 3 _ rfl
  have u4:w2.cell? ⟨ub,uo+4,none⟩=some (.string ⟨a.v.t.toArray⟩):=uF 4 _ rfl
  have u5:w2.cell? ⟨ub,uo+5,none⟩=some (.string ⟨a.op.toArray⟩):=uF 5 _ rfl
  have u6:w2.cell? ⟨ub,uo+6,none⟩=some (.slice ua a.xs.length uc):=uF 6 _ rfl
  obtain ⟨vb,vo,va,vc,ve,vl,_,vX,vF⟩:=arg7 hA2 (show x.xs[1]?=some b by rw [HXS.out];rfl)
  obtain ⟨rfl,rfl⟩:ub=vb∧uo=vo:=by injection ve with ve;injection ve with v1 v2;exact ⟨v1,v2⟩
  have v0:w2.cell? ⟨ub,uo+7,none⟩=some (.int .i64 b.k):=vF 0 _ rfl
  have v1:w2.cell? ⟨ub,uo+8,none⟩=some (.string ⟨b.nm.toArray⟩):=vF 1 _ rfl
  have v2:w2.cell? ⟨ub,uo+9,none⟩=some (.int .i64 b.v.k):=vF 2 _ rfl
  have v3:w2.cell? ⟨ub,uo+10,none⟩=some (.int .i64 b.v.n):=vF 3 _ rfl
  have v4:w2.cell? ⟨ub,uo+11,none⟩=some (.string ⟨b.v.t.toArray⟩):=vF 4 _ rfl
  have v5:w2.cell? ⟨ub,uo+12,none⟩=some (.string ⟨b.op.toArray⟩):=vF 5 _ rfl
  have v6:w2.cell? ⟨ub,uo+13,none⟩=some (.slice va b.xs.length vc):=vF 6 _ rfl
  clear uF vF ve
  go_upto_region 14 with (fail)
  have cA:=qcall (w:=w2) fun W' hb'=>HIA.out W' (two hw2 hb') ua uc (uX.below hb')
  have cB:=qcall (w:=w2) fun W' hb'=>HIB.out W' (two hw2 hb') va vc (vX.below hb')
  have hwr:=HWR.out
  have x5:=cell_regrown x5
  have x6:=cell_regrown x6
  have u0:=cell_regrown u0
  have v0:=cell_regrown v0
  have u1:=cell_regrown u1
  have v1:=cell_regrown v1
  have u2:=cell_regrown u2
  have v2:=cell_regrown v2
  have u3:=cell_regrown u3
  have v3:=cell_regrown v3
  have u4:=cell_regrown u4
  have v4:=cell_regrown v4
  have u5:=cell_regrown u5
  have v5:=cell_regrown v5
  have u6:=cell_regrown u6
  have v6:=cell_regrown v6
  clear uX vX hA2 x0 x1 x2 x3 x4
  refine wp_region_quiet_below (by kernel_rfl) (by kernel_rfl) ?_
  repeat (go_big_quiet_step (with_reducible (first|exact cA _ _|exact cB _ _)))
  refine wpQuiet_nil ?_
  intro _ hw'
  obtain ⟨⟨dq1,os1⟩,hw''⟩:=hw'
  subst hw''
  go_wp2_with fail
  go_ret
  exact ⟨ret_str HW.out,two hw2 (below_regrown _ _ _)⟩
 ·have e4:(((r:Nat):Int) == 4)=false:=by simp;omega
  have hl1:(l:Int)=(r:Int):=by rw [hlr,if_neg hc]
  rw [hl1] at HIA
  have r0:(0:Int)≤(r:Int):=by omega
  have r6:(r:Int)≤6:=by omega
  clear hc hlr hl1 hll hr6
  have HWR:=Lib.hid hwr
  clear hwr
  go_enter Tryz.func46,Tryz.ntmps46
  obtain ⟨x0,x1,x2,x3,x4,x5,x6⟩:=X.seven
  go_wp2_with fail
  generalize w.alloc (.cells #[.int .i64 4,.string ⟨x.nm.toArray⟩,.int .i64 x.v.k,.int .i64 x.v.n,.string ⟨x.v.t.toArray⟩,.string Y,.slice sa 2 ca] 27)=W1 at *
  refine HR.out.mono ?_
  rintro e w2 ⟨rfl,hb2⟩
  have X2:=X.next hb2
  have hw2:=two HB.out hb2
  have hA2:=hXA.out w2 hw2
  clear x0 x1 x2 x3 x4 x5 x6 X
  obtain ⟨x0,x1,x2,x3,x4,x5,x6⟩:=X2.seven
  obtain ⟨ub,uo,ua,uc,ue,ul,_,uX,uF⟩:=arg7 hA2 (show x.xs[0]?=some a by rw [HXS.out];rfl)
  subst ue
  have u0:w2.cell? ⟨ub,uo,none⟩=some (.int .i64 a.k):=uF 0 _ rfl
  have u1:w2.cell? ⟨ub,uo+1,none⟩=some (.string ⟨a.nm.toArray⟩):=uF 1 _ rfl
  have u2:w2.cell? ⟨ub,uo+2,none⟩=some (.int .i64 a.v.k):=uF 2 _ rfl
  have u3:w2.cell? ⟨ub,uo+3,none⟩=some (.int .i64 a.v.n):=uF 3 _ rfl
  have u4:w2.cell? ⟨ub,uo+4,none⟩=some (.string ⟨a.v.t.toArray⟩):=uF 4 _ rfl
  have u5:w2.cell? ⟨ub,uo+5,none⟩=some (.string ⟨a.op.toArray⟩):=uF 5 _ rfl
  have u6:w2.cell? ⟨ub,uo+6,none⟩=some (.slice ua a.xs.length uc):=uF 6 _ rfl
  obtain ⟨vb,vo,va,vc,ve,vl,_,vX,vF⟩:=arg7 hA2 (show x.xs[1]?=some b by rw [HXS.out];rfl)
  obtain ⟨rfl,rfl⟩:ub=vb∧uo=vo:=by injection ve with ve;injection ve with v1 v2;exact ⟨v1,v2⟩
  have v0:w2.cell? ⟨ub,uo+7,none⟩=some (.int .i64 b.k):=vF 0 _ rfl
  have v1:w2.cell? ⟨ub,uo+8,none⟩=some (.string ⟨b.nm.toArray⟩):=vF 1 _ rfl
  have v2:w2.cell? ⟨ub,uo+9,none⟩=some (.int .i64 b.v.k):=vF 2 _ rfl
  have v3:w2.cell? ⟨ub,uo+10,none⟩=some (.int .i64 b.v.n):=vF 3 _ rfl
  have v4:w2.cell? ⟨ub,uo+11,none⟩=some (.string ⟨b.v.t.toArray⟩):=vF 4 _ rfl
  have v5:w2.cell? ⟨ub,uo+12,none⟩=some (.string ⟨b.op.toArray⟩):=vF 5 _ rfl
  have v6:w2.cell? ⟨ub,uo+13,none⟩=some (.slice va b.xs.length vc):=vF 6 _ rfl
  clear uF vF ve
  go_upto_region 14 with (fail)
  have cA:=qcall (w:=w2) fun W' hb'=>HIA.out W' (two hw2 hb') ua uc (uX.below hb')
  have cB:=qcall (w:=w2) fun W' hb'=>HIB.out W' (two hw2 hb') va vc (vX.below hb')
  have hwr:=HWR.out
  have x5:=cell_regrown x5
  have x6:=cell_regrown x6
  have u0:=cell_regrown u0
  have v0:=cell_regrown v0
  have u1:=cell_regrown u1
  have v1:=cell_regrown v1
  have u2:=cell_regrown u2
  have v2:=cell_regrown v2
  have u3:=cell_regrown u3
  have v3:=cell_regrown v3
  have u4:=cell_regrown u4
  have v4:=cell_regrown v4
  have u5:=cell_regrown u5
  have v5:=cell_regrown v5
  have u6:=cell_regrown u6
  have v6:=cell_regrown v6
  clear uX vX hA2 x0 x1 x2 x3 x4
  refine wp_region_quiet_below (by kernel_rfl) (by kernel_rfl) ?_
  repeat (go_big_quiet_step (with_reducible (first|exact cA _ _|exact cB _ _)))
  refine wpQuiet_nil ?_
  intro _ hw'
  obtain ⟨⟨dq1,os1⟩,hw''⟩:=hw'
  subst hw''
  go_wp2_with fail
  go_ret
  exact ⟨ret_str HW.out,two hw2 (below_regrown _ _ _)⟩
end Go.Proofs.YtonkjhmkppeagaaGreatDoor.Pz
namespace Go.Proofs.YtonkjhmkppeagaaGreatDoor.Pz
open Go.RowKit Go Go.Sort Ba Lx
theorem joinS_len:∀ l:List Str,2 * l.length≤(joinS [44,32] l).length+2
 | []=>Nat.zero_le _
 | [a]=>by show 2 * 1≤_;omega
 | a::b::r=>by
  have:=joinS_len (b::r)
  show 2 * (a::b::r).length≤(a++([44,32]++joinS [44,32] (b::r))).length+2
  simp only [List.length_append,List.length_cons,List.length_nil] at this ⊢
  omega
theorem joinS_mem:∀ (l:List Str) (a:Str),a ∈ l→a.length≤(joinS [44,32] l).length
 | [b],a,h=>by simp at h;subst h;exact Nat.le_refl _
 | b::c::r,a,h=>by
  show a.length≤(b++([44,32]++joinS [44,32] (c::r))).length
  simp only [List.length_append]
  rcases List.mem_cons.1 h with rfl|h
  ·omega
  ·have:=joinS_mem (c::r) a h;omega
theorem join_eq:∀ l:List Str,Lib.join l [44,32]=joinS [44,32] l
 | []=>rfl
 | [a]=>Lib.join_one a _
 | a::b::r=>by
  have:=join_eq (b::r)
  show Lib.join (a::b::r) [44,32]=a++([44,32]++joinS [44,32] (b::r))
  rw [← this]
  unfold Lib.join List.intercalate
  rw [List.intersperse_cons_cons,List.flatten_cons,List.flatten_cons]
theorem infoStr:(Tryz.prog.info? 9).map (fun i=>(i.zero,i.size,i.bytes))=some (some (.string ⟨#[]⟩),1,16):=by kernel_rfl
def texts (xs:List Ex):List (List Dat):=xs.map fun a=>strD (textE a)
theorem texts_take {xs:List Ex} {k:Nat} {a:Ex} (h:xs[k]?=some a):texts (xs.take (k+1))=texts (xs.take k)++[strD (textE a)]:=by
 unfold texts
 rw [List.take_add_one,h,List.map_append];rfl
theorem texts_cell {W:World} {base g cap:Nat} {xs:List Ex} {cells:List (List Value)} (h:Own W base 9 1 (.slice (some ⟨g,0,none⟩) xs.length cap) (texts xs) cells) {j:Nat} {a:Ex} (ha:xs[j]?=some a):W.cell? ⟨g,j,none⟩=some (.string ⟨(textE a).toArray⟩):=by
 have hr:(texts xs)[j]?=some (strD (textE a)):=by unfold texts;rw [List.getElem?_map,ha];rfl
 have hjl:=(List.getElem?_eq_some_iff.1 hr).1
 have hc:cells[j]?=some (cells[j]'(by rw [h.len];exact hjl)):=List.getElem?_eq_getElem _
 obtain ⟨_,h2⟩:=h.row j _ _ hr hc
 obtain ⟨c,r,hcr,h3,h4⟩:=h2.uncons
 obtain rfl:=h4.unnil
 obtain rfl:=h3.val
 have:=h.at hc (j:=0) (by rw [hcr];rfl)
 rw [Nat.mul_one,Nat.add_zero] at this
 exact this
set_option maxRecDepth 100000 in
set_option maxHeartbeats 6400000 in
theorem text_call (x:Ex) (h5:x.k=5) (ih:∀ a ∈ x.xs,TxOk a):TxOk x:=fun sa ca w ok hA hE hb hlen=>by
 have bw:Below w.heap.size w (w.alloc (.cells #[.int .i64 x.k,.string ⟨x.nm.toArray⟩,.int .i64 x.v.k,.int .i64 x.v.n,.string ⟨x.v.t.toArray⟩,.string ⟨x.op.toArray⟩,.slice sa x.xs.length ca] 27)):=(Below.refl _ w).alloc (Nat.le_refl _) _
 have X:=Box.new w [.int .i64 x.k,.string ⟨x.nm.toArray⟩,.int .i64 x.v.k,.int .i64 x.v.n,.string ⟨x.v.t.toArray⟩,.string ⟨x.op.toArray⟩,.slice sa x.xs.length ca] 27
 have HB:=Lib.hid bw
 obtain ⟨i0,hi,hz0,hz1,hz2⟩:=info_parts infoStr
 have hbs:=((BdE_eq x).mp hb).2.2.2.2.2
 have hnl:=((BdE_eq x).mp hb).2.2.2.1
 have HT:=textE_5 h5
 have hjl:(joinS [44,32] (x.xs.map textE)).length≤1000000:=by rw [HT] at hlen;simp at hlen;omega
 have hcnt:x.xs.length≤600000:=by have:=joinS_len (x.xs.map textE);rw [List.length_map] at this;omega
 have HTX:=Lib.hid (fun (a:Ex) (ha:a ∈ x.xs) W (hW:Below w.heap.size w W) ua uc (hu:XArgs W ok (.slice ua a.xs.length uc) a.xs)=>ih a ha ua uc W ok hu (hE.below hW) (BdEs_mem hbs a ha) (Nat.le_trans (joinS_mem _ _ (List.mem_map.2 ⟨a,ha,rfl⟩)) hjl))
 have hXA:=Lib.hid (fun W (hW:Below w.heap.size w W)=>hA.below hW)
 obtain ⟨N,hN⟩:∃ N:ByteArray,(⟨x.nm.toArray⟩:ByteArray)=N:=⟨_,rfl⟩
 have hNs:N.size≤1000000:=by rw [← hN,sz_mk];exact hnl
 obtain ⟨J,hJ⟩:∃ J:ByteArray,(⟨(joinS [44,32] (x.xs.map textE)).toArray⟩:ByteArray)=J:=⟨_,rfl⟩
 have hJs:J.size≤1000000:=by rw [← hJ,sz_mk];exact hjl
 have HW:Hid (((N++⟨#[40]⟩)++J)++⟨#[41]⟩=⟨(textE x).toArray⟩):=by
  show _=_
  rw [← hN,← hJ,HT]
  show ((((⟨x.nm.toArray⟩:ByteArray)++⟨([40]:Str).toArray⟩)++⟨(joinS [44,32] (x.xs.map textE)).toArray⟩)++⟨([41]:Str).toArray⟩)=_
  rw [app_mk,app_mk,app_mk]
  congr 2
  simp [List.append_assoc]
 have HJ:=Lib.hid hJ
 have HJL:=Lib.hid hjl
 obtain ⟨n,hn⟩:∃ n,x.xs.length=n:=⟨_,rfl⟩
 have HX:Hid (exV x (.slice sa x.xs.length ca)=.agg #[.int .i64 5,.string N,.int .i64 x.v.k,.int .i64 x.v.n,.string ⟨x.v.t.toArray⟩,.string ⟨x.op.toArray⟩,.slice sa n ca]):=by show _=_;rw [← h5,← hN,← hn]
 rw [HX.out]
 rw [h5,hN,hn] at X HB
 rw [hn] at hXA hcnt
 have HN:=Lib.hid hn
 clear hA hE hb hlen bw hbs hnl HT hjl hN hJ hn HX h5 ih
 go_enter Tryz.func46,Tryz.ntmps46
 obtain ⟨x0,x1,x2,x3,x4,x5,x6⟩:=X.seven
 go_wp2_with fail
 generalize w.alloc (.cells #[.int .i64 5,.string N,.int .i64 x.v.k,.int .i64 x.v.n,.string ⟨x.v.t.toArray⟩,.string ⟨x.op.toArray⟩,.slice sa n ca] 27)=W1 at *
 have hB0:=HB.out.size
 go_loopw [5,103] (fun v i wr=>∃ (k:Nat) (cells:List (List Value)),k≤n∧i=.int .i64 k∧Hid (Own wr W1.heap.size 9 1 v (texts (x.xs.take k)) cells)∧Hid (Below W1.heap.size W1 wr)) (fun _ i _=>n - (intOf i).toNat)
 case atStart=>exact ⟨0,[],Nat.zero_le _,rfl,Own.nil _ _ _ _,Below.refl _ _⟩
 case round =>
  obtain ⟨k,cells,hk,rfl,HO,HBW⟩:=hrel
  have hw1:=HB.out.trans (HBW.out.mono hB0)
  have hz1s:=HBW.out.size
  obtain ⟨ao,cp,hform⟩:=HO.out.form
  rw [hform] at HO ⊢
  by_cases hlt:k < n
  ·obtain ⟨a,ha⟩:∃ a,x.xs[k]?=some a:=⟨_,List.getElem?_eq_getElem (by rw [HN.out];exact hlt)⟩
   have hA2:=hXA.out wr hw1
   obtain ⟨ub,uo,ua,uc,rfl,ul,_,uX,uF⟩:=arg7 hA2 ha
   have u0:=uF 0 _ rfl
   have u1:=uF 1 _ rfl
   have u2:=uF 2 _ rfl
   have u3:=uF 3 _ rfl
   have u4:=uF 4 _ rfl
   have u5:=uF 5 _ rfl
   have u6:=uF 6 _ rfl
   rw [Nat.add_zero] at u0
   have bwa:Below wr.heap.size wr (wr.alloc (.cells #[.int .i64 a.k,.string ⟨a.nm.toArray⟩,.int .i64 a.v.k,.int .i64 a.v.n,.string ⟨a.v.t.toArray⟩,.string ⟨a.op.toArray⟩,.slice ua a.xs.length uc] 27)):=(Below.refl _ wr).alloc (Nat.le_refl _) _
   have HTA:=Lib.hid (HTX.out a (List.mem_of_getElem? ha) _ (two hw1 bwa) ua uc (uX.below bwa))
   obtain ⟨T,hT⟩:∃ T:ByteArray,(⟨(textE a).toArray⟩:ByteArray)=T:=⟨_,rfl⟩
   unfold StrTo at HTA
   rw [hT] at HTA
   have HTK:=Lib.hid (texts_take ha)
   have HR:Hid (∀ W (o:Nat→Prop),Row W o (strD (textE a)) [.string T]):=fun W o=>by rw [← hT];exact (Row.nil W o).cons (.v _ rfl)
   have hrl:(texts (x.xs.take k)).length=k:=by unfold texts;rw [List.length_map,List.length_take,HN.out];omega
   have HRL:=Lib.hid hrl
   rw [hrl] at hform HO
   have HOW:=Lib.hid (HO.out.kept (S:=fun _=>False) (Kept.of_below bwa) (fun _ _ h=>h))
   have HBA:=Lib.hid (HBW.out.trans (bwa.mono hz1s))
   try rw [hrl]
   clear hA2 uX uF ha bwa hT hrl HO hform
   go_wp2_with (first|(go_at_call 46;refine HTA.out.mono ?_;rintro e w2 ⟨rfl,hb2⟩)|(at_builtin;refine app_own rfl (.tmp 107) (.tmp 110) 48 9 rfl Tryz.underlying48 hi hz0 hz1 hz2 rfl (by decide) (by decide) W1.heap.size (.slice ao k cp) (texts (x.xs.take k)) cells (strD (textE a)) [.string T] #[.string T] rfl (HOW.out.kept (S:=fun _=>False) (Kept.of_below hb2) (fun _ _ h=>h)) rfl (HR.out _ _) rfl rfl (by rw [HRL.out];omega) (by have:=HBA.out.size;have:=hb2.size;omega) ?_;intro v1 w3 hown1 hg1))
   have hb3:Below W1.heap.size W1 w2:=HBA.out.trans (hb2.mono HBA.out.size)
   go_roundw
   case rel=>exact ⟨k+1,cells++[[.string T]],by omega,by go_num,(by rw [HTK.out];exact hown1),hb3.grown hg1 hb3.size (fun j e=>(HOW.out.lt j e).1)⟩
   case measure=>simp [intOf];omega
  ·obtain rfl:k=n:=by omega
   have htk:x.xs.take k=x.xs:=by rw [← HN.out,List.take_length]
   have hrl:(texts (x.xs.take k)).length=k:=by rw [htk];unfold texts;rw [List.length_map,HN.out]
   rw [hrl] at HO ⊢
   rw [htk] at HO
   have X3:=X.next HBW.out
   clear x0 x1 x2 x3 x4 x5 x6 hform htk hrl
   obtain ⟨x0,x1,x2,x3,x4,x5,x6⟩:=X3.seven
   have hJW:∀ W,Below wr.heap.size wr W→Calls Tryz.prog 84 #[.slice ao k cp,.string ⟨#[44,32]⟩] W fun e w'=>e=.returned (.string J)∧Below W.heap.size W w':=fun W hW=>by
    by_cases h0:k=0
    ·have hxs:x.xs=[]:=List.eq_nil_of_length_eq_zero (by rw [HN.out];exact h0)
     have hJ0:J=⟨#[]⟩:=by rw [← HJ.out,hxs];rfl
     rw [h0,hJ0]
     refine (Tryz.strings_Join_none ao cp ⟨#[44,32]⟩ W).mono ?_
     rintro e w' ⟨he,rfl⟩
     exact ⟨he,Below.refl _ _⟩
    ·have hOW:=HO.out.kept (S:=fun _=>False) (Kept.of_below hW) (fun _ _ h=>h)
     rcases hOW.own.2 with ⟨_,h1⟩|⟨g,cap,cur,hv,hg,hh,h3,h4,h5,h6⟩
     ·exact absurd (by unfold texts at h1;rw [List.length_map,HN.out] at h1;exact h1) h0
     ·injection hv with v1 v2 v3
      subst v1 v3
      have hgl:=(hOW.lt g rfl).2
      have hO2:Own W W1.heap.size 9 1 (.slice (some ⟨g,0,none⟩) x.xs.length cp) (texts x.xs) cells:=by rw [HN.out];exact hOW
      have h3':k≤cp:=by unfold texts at h3;rw [List.length_map,HN.out] at h3;exact h3
      have hjoin:Lib.join ((x.xs.map fun a=>(⟨(textE a).toArray⟩:ByteArray)).map (·.data.toList)) (⟨#[44,32]⟩:ByteArray).data.toList=joinS [44,32] (x.xs.map textE):=by
       rw [List.map_map]
       exact join_eq (x.xs.map textE)
      have hlen:(x.xs.map fun a=>(⟨(textE a).toArray⟩:ByteArray)).length=k:=by rw [List.length_map,HN.out]
      have:=Tryz.strings_Join g 0 cp (x.xs.map fun a=>(⟨(textE a).toArray⟩:ByteArray)) ⟨#[44,32]⟩ W (fun j y hj=>by
       rw [List.getElem?_map] at hj
       cases ha:x.xs[j]? with
       | none=>rw [ha] at hj;cases hj
       | some a =>
        rw [ha] at hj
        obtain rfl:=Option.some.inj hj
        rw [Nat.zero_add]
        exact texts_cell hO2 ha) hgl (by rw [hlen];omega) (by rw [hlen];exact h3') (by rw [hjoin];have:=HJL.out;omega)
      rw [hlen,hjoin,HJ.out] at this
      exact this
   have cA:=qcall (w:=wr) hJW
   go_upto_region 22 with (fail)
   have x1:=cell_regrown x1
   clear x0 x2 x3 x4 x5 x6 hJW
   refine wp_region_quiet_below (by kernel_rfl) (by kernel_rfl) ?_
   repeat (go_big_quiet_step (with_reducible (exact cA _ _)))
   refine wpQuiet_nil ?_
   intro _ hw'
   obtain ⟨⟨dq1,os1⟩,hw''⟩:=hw'
   subst hw''
   go_wp2_with fail
   go_ret
   exact ⟨ret_str HW.out,two hw1 (below_regrown _ _ _)⟩
theorem text_node (x:Ex) (ih:∀ a ∈ x.xs,TxOk a):TxOk x:=by
 by_cases h1:x.k=1
 ·exact text_leaf x (.inl h1)
 by_cases h2:x.k=2
 ·exact text_leaf x (.inr h2)
 by_cases h3:x.k=3
 ·match hxs:x.xs with
  | [a]=>exact text_one x a h3 hxs (ih a (by rw [hxs];simp))
  | []=>exact text_none x (.inl ⟨h3,by rw [hxs];simp⟩)
  | a::b::r=>exact text_none x (.inl ⟨h3,by rw [hxs];simp⟩)
 by_cases h4:x.k=4
 ·match hxs:x.xs with
  | [a,b]=>exact text_two x a b h4 hxs (ih a (by rw [hxs];simp)) (ih b (by rw [hxs];simp))
  | []=>exact text_none x (.inr (.inl ⟨h4,by rw [hxs];simp⟩))
  | [a]=>exact text_none x (.inr (.inl ⟨h4,by rw [hxs];simp⟩))
  | a::b::c::r=>exact text_none x (.inr (.inl ⟨h4,by rw [hxs];simp⟩))
 by_cases h5:x.k=5
 ·exact text_call x h5 ih
 exact text_none x (.inr (.inr ⟨h1,h2,h3,h4,h5⟩))
theorem text_any:∀ x,TxOk x:=Ex.ind fun k nm v op xs h=>text_node (.mk k nm v op xs) h
end Go.Proofs.YtonkjhmkppeagaaGreatDoor.Pz
namespace Go.Proofs.YtonkjhmkppeagaaGreatDoor.Pz
open Go.RowKit Go Go.Sort Ba Lx
instance:DecidableEq Ex:=fun x y=>decidable_of_iff (eqE x y=true) (eqE_iff x y)
theorem XArgs.all {W:World} {ok:Nat→Prop} {sl:Value} {xs:List Ex} (h:XArgs W ok sl xs):XArgs W (fun _=>True) sl xs:=Rep.weak (fun _ _ _=>trivial) h
end Go.Proofs.YtonkjhmkppeagaaGreatDoor.Pz
namespace Go.Proofs.YtonkjhmkppeagaaGreatDoor.Pz
open Go Go.RowKit Lx
theorem wi_len {x:Ex} (h:(textE x).length+1≤heavyE x) (k:Nat):(wiT k (x,textE x)).length+1≤heavyR k x:=by
 unfold wiT heavyR wiW
 simp only
 split
 ·simp only [List.length_cons,List.length_append,List.length_nil];omega
 ·exact h
theorem mi_len {x:Ex} (h:(textE x).length+1≤heavyE x):(miT (x,textE x)).length+1≤miW (x,heavyE x):=by
 unfold miT miW
 split
 ·simp only [List.length_cons,List.length_append,List.length_nil];omega
 ·exact wi_len h 7
theorem join_len:∀ (xs:List Ex),(∀ x ∈ xs,(textE x).length+1≤heavyE x)→(joinS [44,32] (xs.map textE)).length≤(xs.map fun a=>heavyE a+2).sum
 | [],_=>Nat.zero_le _
 | [x],h=>by
  have:=h x (by simp)
  show (textE x).length≤_
  simp;omega
 | x::y::l,h=>by
  have ih:=join_len (y::l) (fun z hz=>h z (by simp [hz]))
  have:=h x (by simp)
  show ((textE x)++([44,32]++joinS [44,32] ((y::l).map textE))).length≤_
  rw [List.map_cons (f:=fun a=>heavyE a+2),List.sum_cons]
  simp only [List.length_append,List.length_cons,List.length_nil]
  omega
theorem text_heavy:∀ x,OkE x→(textE x).length+1≤heavyE x:=by
 intro x
 refine Ex.ind (P:=fun x=>OkE x→(textE x).length+1≤heavyE x) ?_ x
 intro k nm v op xs ih ok
 generalize hx:Ex.mk k nm v op xs=x at ok
 cases ok with
 | col n h=>rw [textE_col,heavyE_col];exact Nat.le_refl _
 | null=>rw [textE_const,heavyE_const,showV_null];decide
 | num n h0 h1 =>
  rw [textE_const,heavyE_const,showV_num]
  unfold constW
  rw [if_pos rfl]
  split
  ·rename_i hn
   change n < 0 at hn
   rw [itoa_neg' hn,List.length_cons]
   show _≤(Lib.itoa (-n)).length+3
   omega
  ·exact Nat.le_refl _
 | txt t h=>rw [textE_const,heavyE_const,showV_txt h];exact Nat.le_refl _
 | not a h =>
  have:=wi_len (ih a (by cases hx;simp) h) 3
  rw [textE_not,heavyE_not,List.length_append,List.length_cons]
  show 3+_+1≤_
  omega
 | neg a h =>
  have:=mi_len (ih a (by cases hx;simp) h)
  rw [textE_neg,heavyE_neg,List.length_append]
  show 1+_+1≤_
  omega
 | bin op' a b ho h1 h2 =>
  have ha:=wi_len (ih a (by cases hx;simp) h1) (leftR op')
  have hb:=wi_len (ih b (by cases hx;simp) h2) (rankOp op'+1)
  rw [textE_bin,heavyE_bin]
  simp only [List.length_append,List.length_cons]
  omega
 | call n xs' h h0 hxs =>
  have:=join_len xs' (fun z hz=>ih z (by cases hx;exact hz) (hxs z hz))
  rw [textE_call,heavyE_call]
  simp only [List.length_append,List.length_cons,List.length_nil]
  omega
theorem wt_open (l:List UInt8):Wt (openP l)≤2 * l.length:=by
 unfold Wt openP
 simp only [List.drop_zero]
 unfold lexS
 split
 ·simp
 ·obtain ⟨_,h2,h3⟩:=lex_toks l.length l 0 (Nat.le_refl _)
  have:∀ ts:List Tok,(ts.map fun t=>(sh t).length+1).sum=(ts.map fun t=>(sh t).length).sum+ts.length:=by
   intro ts
   induction ts with
   | nil=>rfl
   | cons t r ih=>simp only [List.map_cons,List.sum_cons,List.length_cons,ih];omega
  rw [this];omega
end Go.Proofs.YtonkjhmkppeagaaGreatDoor.Pz
