/- Walks: the texts of pairs, of what is reckoned, of orders, of what is kept. -/
import Derived.Test.YtonkjhmkppeagaaGreatDoorCWords
import Derived.Test.YtonkjhmkppeagaaGreatDoorCQy
set_option maxRecDepth 100000
set_option maxHeartbeats 3200000
set_option linter.unusedVariables false
set_option linter.unusedSimpArgs false
namespace Go.Proofs.YtonkjhmkppeagaaGreatDoor.Pz
open Go.Proofs.Tryz
open Go.Lib (hid)
open Go.RowKit Go Go.Sort Ba Lx
theorem zgn (x:Pl) (hlen:(joinS [44,32] (x.on.map pairT)).length≤1000000) (a0 a1 a2 a3 a4 a5 a6:Option Addr) (ac0 ac1 ac2 ac3 ac4 ac5 ac6:Nat) (w:World) (ok:Nat→Prop) (hA:PlAt w ok x a0 ac0 a1 ac1 a2 ac2 a3 ac3 a4 ac4 a5 ac5 a6 ac6) :
 Calls Tryz.prog 124 #[plV x a0 ac0 a1 ac1 a2 ac2 a3 ac3 a4 ac4 a5 ac5 a6 ac6] w (StrTo (joinS [44,32] (x.on.map pairT)) w):=by
 have H:=hid (St.start (S:=fun _=>False) w);have hR:=(show PlRep w ok x (.slice a0 x.xs.length ac0) (.slice a1 x.cond.xs.length ac1) (.slice a2 x.names.length ac2) (.slice a3 x.exprs.length ac3) (.slice a4 x.on.length ac4) (.slice a5 x.aggs.length ac5) (.slice a6 x.ord.length ac6) from hA).on;have HLN:=hid hlen;have hcnt:x.on.length≤600000:=by have:=zb7 (x.on.map pairT);rw[List.length_map]at this;omega
 have hit:Hid (∀ y∈x.on,(pairT y).length≤1000000):=fun y hy=>Nat.le_trans (zcL _ _ (List.mem_map.2 ⟨y,hy,rfl⟩)) hlen
 obtain ⟨n,hn⟩:∃ n,x.on.length=n:=⟨_,rfl⟩;obtain ⟨S0,hS0⟩:∃ S:Value,Value.slice a0 x.xs.length ac0=S:=⟨_,rfl⟩;obtain ⟨S1,hS1⟩:∃ S:Value,Value.slice a1 x.cond.xs.length ac1=S:=⟨_,rfl⟩;obtain ⟨S2,hS2⟩:∃ S:Value,Value.slice a2 x.names.length ac2=S:=⟨_,rfl⟩;obtain ⟨S3,hS3⟩:∃ S:Value,Value.slice a3 x.exprs.length ac3=S:=⟨_,rfl⟩;obtain ⟨S5,hS5⟩:∃ S:Value,Value.slice a5 x.aggs.length ac5=S:=⟨_,rfl⟩;obtain ⟨S6,hS6⟩:∃ S:Value,Value.slice a6 x.ord.length ac6=S:=⟨_,rfl⟩;have HV:Hid (plV x a0 ac0 a1 ac1 a2 ac2 a3 ac3 a4 ac4 a5 ac5 a6 ac6=.agg (plC x S0 S1 S2 S3 (.slice a4 n ac4) S5 S6).toArray):=by show Value.agg (plC x (.slice a0 x.xs.length ac0) (.slice a1 x.cond.xs.length ac1) (.slice a2 x.names.length ac2) (.slice a3 x.exprs.length ac3) (.slice a4 x.on.length ac4) (.slice a5 x.aggs.length ac5) (.slice a6 x.ord.length ac6)).toArray=_;rw[hS0,hS1,hS2,hS3,hS5,hS6,hn]
 rw[HV.out];rw[hn]at hR hcnt;have HR:=hid hR;have HN:=hid hn;clear hA hR hlen hn HV hS0 hS1 hS2 hS3 hS5 hS6;go_enter func124,ntmps124
 go_wp2_with (first|(refine St.w_box (vs:=(plC x S0 S1 S2 S3 (.slice a4 n ac4) S5 S6)) H.out (by rfl) rfl rfl rfl ?_;intro wn X _ _ H2;replace H:=hid H2;clear H2)|(refine St.w_load1 (ty:=53) H.out (by rfl) rfl rfl 0 rfl rfl uSPr_ ?_))
 replace H:=hid (H.out.gather 9 1);go_loopw [3,9] (fun v i wr=>∃ (k:Nat) (ao:Option Addr) (cp:Nat) (cells:List (List Value)),k≤n∧v=.slice ao k cp∧i=.int .i64 k∧Hid (St (fun _=>False) w wr [(X,(plC x S0 S1 S2 S3 (.slice a4 n ac4) S5 S6))] [] [⟨9,1,.slice ao k cp,(x.on.take k).map (fun y=>strD (pairT y)),cells⟩])) (fun _ i _=>n-(intOf i).toNat)
 case atStart=>exact ⟨0,none,0,[],Nat.zero_le _,rfl,rfl,H⟩
 case round =>
  clear H;obtain ⟨k,ao,cp,cells,hk,rfl,rfl,H⟩:=hrel;have hw1:=zab H.out;have HRL:Hid (((x.on.take k).map (fun y=>strD (pairT y))).length=k):=by show ((x.on.take k).map (fun y=>strD (pairT y))).length=k;rw[List.length_map,List.length_take,HN.out];omega
  have HMIN:Hid (min k x.on.length=k):=by show min k x.on.length=k;rw[HN.out];omega
  by_cases hlt:k<n
  ·obtain ⟨y,hy⟩:∃ y,x.on[k]?=some y:=⟨_,List.getElem?_eq_getElem (by rw[HN.out];exact hlt)⟩;obtain ⟨b,o,cs,rfl,hrow,hcl,hcc⟩:=HR.out.cellsR (i:=k) (r:=pairD y) (by rw[List.getElem?_map,hy];rfl);have hyl:=hit.out y (List.mem_of_getElem? hy);have HTK:=hid (zaR (fun y=>strD (pairT y)) hy);unfold pairD at hrow;obtain ⟨c0,r0,rfl,h0,hrow0⟩:=hrow.uncons;obtain rfl:=h0.val;obtain ⟨c1,r1,rfl,h1,hrow1⟩:=hrow0.uncons;obtain rfl:=h1.val;obtain rfl:=hrow1.unnil;obtain ⟨A,hA⟩:∃ N:ByteArray,(⟨(y.1).toArray⟩:ByteArray)=N:=⟨_,rfl⟩;obtain ⟨B,hB⟩:∃ N:ByteArray,(⟨(y.2).toArray⟩:ByteArray)=N:=⟨_,rfl⟩;have hAs:A.size≤1000000:=by rw[← hA,sz_mk];have:=hyl;unfold pairT at this;(try split at this)<;>(try simp at this)<;>omega
   have hBs:B.size≤1000000:=by rw[← hB,sz_mk];have:=hyl;unfold pairT at this;(try split at this)<;>(try simp at this)<;>omega
   have HC:Hid (∀ (j:Nat) (v:Value),([.string A,.string B]:List Value)[j]?=some v→wr.cell? ⟨b,o+k*2+j,none⟩=some v):=fun j v hv=>by
    have:=hcc wr hw1 j v;change ([.string ⟨(y.1).toArray⟩,.string ⟨(y.2).toArray⟩]:List Value)[j]?=some v→_ at this
    rw[hA,hB]at this;exact this hv
   have HW:Hid ((A++⟨#[32,61,32]⟩)++B=⟨(pairT y).toArray⟩):=by
    show _=_
    rw[← hA,← hB];show ((⟨y.1.toArray⟩:ByteArray)++⟨([32,61,32]:Str).toArray⟩)++⟨y.2.toArray⟩=_
    rw[za4,za4];congr 2
    unfold pairT;simp[List.append_assoc]
   have HROW:Hid (∀ (W:World) (q:Nat→Prop),Row W q (strD (pairT y)) [.string ((A++⟨#[32,61,32]⟩)++B)]):=fun W q=>by rw[HW.out];exact (Row.nil W q).cons (.v _ rfl)
   clear hrow hrow0 hrow1 hcl hcc hy hyl HW h0 h1 hA hB;have hkn:k+1≤1000000:=by omega
   have HKL:=hid hkn;have hbk:(k:Int)<(n:Int):=by omega
   clear hkn
   go_wp2_with (first|(refine zar (by rfl) (ty:=65) rfl rfl HC.out uPr_ sPr_ ?_)|(refine St.w_alloc (ty:=65) H.out (by rfl) rfl zPr_ rfl ?_;intro wn Cn _ _ H2;replace H:=hid H2;clear H2)|(first|(refine St.w_store (ty:=65) H.out (by rfl) rfl rfl rfl 0 rfl rfl rfl sPr_ (zae rfl) ?_;intro wn _ _ H2;replace H:=hid H2;clear H2))|(refine St.w_load1 (ty:=9) H.out (by rfl) rfl rfl 0 rfl rfl uStr_ ?_)|(refine St.w_load1 (ty:=4) H.out (by rfl) rfl rfl 0 rfl rfl zgl ?_)|(refine St.w_lit1 H.out (by rfl) rfl underlying48 iS2_ rfl rfl (by decide) (by decide) rfl rfl ?_;intro wl Cl H2;replace H:=hid H2;clear H2)|(refine St.w_append (r:=strD (pairT y)) H.out (by rfl) rfl underlying48 iS3_ rfl (by decide) (by decide) 0 rfl rfl rfl rfl rfl 0 rfl rfl (HROW.out _ _) (by rw[HRL.out];exact HKL.out) ?_;intro wl ao9 cap9 _ H2;replace H:=hid H2;clear H2))
   have H3:=(H.out.drop (L':=[(X,(plC x S0 S1 S2 S3 (.slice (some ⟨b,o,none⟩) n ac4) S5 S6))]) (by first|exact (.cons _ (.cons _ (List.Sublist.refl _)))|exact (.cons _ (List.Sublist.refl _))));simp only[List.set_cons_zero]at H3;rw[HRL.out]at H3;have H4:=hid H3;clear H H3;go_roundw
   case rel=>exact ⟨k+1,ao9,cap9,_,by omega,by first|rw[HRL.out]|rw[HMIN.out],by go_num,by show St _ _ _ _ _ _;rw[HTK.out];exact H4.out⟩
   case measure=>simp[intOf];omega
  ·obtain rfl:k=n:=by omega
   have htk:x.on.take k=x.on:=by rw[← HN.out,List.take_length]
   have hbk:¬ ((k:Int)<(k:Int)):=by omega
   have H3:=H.out.shut;have hrep:=repOf (H3.rowAt (j:=0) rfl);simp only at hrep;rw[htk,show x.on.map (fun y=>strD (pairT y))=(x.on.map pairT).map strD from by rw[List.map_map];rfl]at hrep;have hlm:(x.on.map pairT).length=k:=by rw[List.length_map,HN.out]
   have hj:=zcn [44,32] zdk (x.on.map pairT) ao cp wr _ (by rw[hlm];exact hrep) (by have:=HLN.out;omega) (by rw[hlm];omega);rw[hlm]at hj;have HJ:=hid hj;clear hj hrep H3 htk hlm;go_wp2_with (go_at_call 84;(with_reducible (refine HJ.out.mono ?_));rintro e w2 ⟨rfl,hb2⟩)
   go_ret
   exact ⟨rfl,two (zab H.out) hb2⟩
theorem zlM (x:Pl) (hlen:(joinS [44,32] (x.aggs.map aggT)).length≤1000000) (a0 a1 a2 a3 a4 a5 a6:Option Addr) (ac0 ac1 ac2 ac3 ac4 ac5 ac6:Nat) (w:World) (ok:Nat→Prop) (hA:PlAt w ok x a0 ac0 a1 ac1 a2 ac2 a3 ac3 a4 ac4 a5 ac5 a6 ac6) :
 Calls Tryz.prog 125 #[plV x a0 ac0 a1 ac1 a2 ac2 a3 ac3 a4 ac4 a5 ac5 a6 ac6] w (StrTo (joinS [44,32] (x.aggs.map aggT)) w):=by
 have H:=hid (St.start (S:=fun _=>False) w);have hR:=(show PlRep w ok x (.slice a0 x.xs.length ac0) (.slice a1 x.cond.xs.length ac1) (.slice a2 x.names.length ac2) (.slice a3 x.exprs.length ac3) (.slice a4 x.on.length ac4) (.slice a5 x.aggs.length ac5) (.slice a6 x.ord.length ac6) from hA).aggs;have HLN:=hid hlen;have hcnt:x.aggs.length≤600000:=by have:=zb7 (x.aggs.map aggT);rw[List.length_map]at this;omega
 have hit:Hid (∀ y∈x.aggs,(aggT y).length≤1000000):=fun y hy=>Nat.le_trans (zcL _ _ (List.mem_map.2 ⟨y,hy,rfl⟩)) hlen
 obtain ⟨n,hn⟩:∃ n,x.aggs.length=n:=⟨_,rfl⟩;obtain ⟨S0,hS0⟩:∃ S:Value,Value.slice a0 x.xs.length ac0=S:=⟨_,rfl⟩;obtain ⟨S1,hS1⟩:∃ S:Value,Value.slice a1 x.cond.xs.length ac1=S:=⟨_,rfl⟩;obtain ⟨S2,hS2⟩:∃ S:Value,Value.slice a2 x.names.length ac2=S:=⟨_,rfl⟩;obtain ⟨S3,hS3⟩:∃ S:Value,Value.slice a3 x.exprs.length ac3=S:=⟨_,rfl⟩;obtain ⟨S4,hS4⟩:∃ S:Value,Value.slice a4 x.on.length ac4=S:=⟨_,rfl⟩;obtain ⟨S6,hS6⟩:∃ S:Value,Value.slice a6 x.ord.length ac6=S:=⟨_,rfl⟩;have HV:Hid (plV x a0 ac0 a1 ac1 a2 ac2 a3 ac3 a4 ac4 a5 ac5 a6 ac6=.agg (plC x S0 S1 S2 S3 S4 (.slice a5 n ac5) S6).toArray):=by show Value.agg (plC x (.slice a0 x.xs.length ac0) (.slice a1 x.cond.xs.length ac1) (.slice a2 x.names.length ac2) (.slice a3 x.exprs.length ac3) (.slice a4 x.on.length ac4) (.slice a5 x.aggs.length ac5) (.slice a6 x.ord.length ac6)).toArray=_;rw[hS0,hS1,hS2,hS3,hS4,hS6,hn]
 rw[HV.out];rw[hn]at hR hcnt;have HR:=hid hR;have HN:=hid hn;clear hA hR hlen hn HV hS0 hS1 hS2 hS3 hS4 hS6;go_enter func125,ntmps125
 go_wp2_with (first|(refine St.w_box (vs:=(plC x S0 S1 S2 S3 S4 (.slice a5 n ac5) S6)) H.out (by rfl) rfl rfl rfl ?_;intro wn X _ _ H2;replace H:=hid H2;clear H2)|(refine St.w_load1 (ty:=54) H.out (by rfl) rfl rfl 0 rfl rfl uSAg_ ?_))
 replace H:=hid (H.out.gather 9 1);go_loopw [3,9] (fun v i wr=>∃ (k:Nat) (ao:Option Addr) (cp:Nat) (cells:List (List Value)),k≤n∧v=.slice ao k cp∧i=.int .i64 k∧Hid (St (fun _=>False) w wr [(X,(plC x S0 S1 S2 S3 S4 (.slice a5 n ac5) S6))] [] [⟨9,1,.slice ao k cp,(x.aggs.take k).map (fun y=>strD (aggT y)),cells⟩])) (fun _ i _=>n-(intOf i).toNat)
 case atStart=>exact ⟨0,none,0,[],Nat.zero_le _,rfl,rfl,H⟩
 case round =>
  clear H;obtain ⟨k,ao,cp,cells,hk,rfl,rfl,H⟩:=hrel;have hw1:=zab H.out;have HRL:Hid (((x.aggs.take k).map (fun y=>strD (aggT y))).length=k):=by show ((x.aggs.take k).map (fun y=>strD (aggT y))).length=k;rw[List.length_map,List.length_take,HN.out];omega
  have HMIN:Hid (min k x.aggs.length=k):=by show min k x.aggs.length=k;rw[HN.out];omega
  by_cases hlt:k<n
  ·obtain ⟨y,hy⟩:∃ y,x.aggs[k]?=some y:=⟨_,List.getElem?_eq_getElem (by rw[HN.out];exact hlt)⟩;obtain ⟨b,o,cs,rfl,hrow,hcl,hcc⟩:=HR.out.cellsR (i:=k) (r:=aggD y) (by rw[List.getElem?_map,hy];rfl);have hyl:=hit.out y (List.mem_of_getElem? hy);have HTK:=hid (zaR (fun y=>strD (aggT y)) hy);unfold aggD at hrow;obtain ⟨c0,r0,rfl,h0,hrow0⟩:=hrow.uncons;obtain rfl:=h0.val;obtain ⟨c1,r1,rfl,h1,hrow1⟩:=hrow0.uncons;obtain rfl:=h1.val;obtain ⟨c2,r2,rfl,h2,hrow2⟩:=hrow1.uncons;obtain rfl:=h2.val;obtain rfl:=hrow2.unnil;obtain ⟨A,hA⟩:∃ N:ByteArray,(⟨(y.1).toArray⟩:ByteArray)=N:=⟨_,rfl⟩;obtain ⟨B,hB⟩:∃ N:ByteArray,(⟨(y.2.1).toArray⟩:ByteArray)=N:=⟨_,rfl⟩;obtain ⟨C,hC⟩:∃ N:ByteArray,(⟨(y.2.2).toArray⟩:ByteArray)=N:=⟨_,rfl⟩;have hAs:A.size≤1000000:=by rw[← hA,sz_mk];have:=hyl;unfold aggT at this;(try split at this)<;>(try simp at this)<;>omega
   have hBs:B.size≤1000000:=by rw[← hB,sz_mk];have:=hyl;unfold aggT at this;(try split at this)<;>(try simp at this)<;>omega
   have hCs:C.size≤1000000:=by rw[← hC,sz_mk];have:=hyl;unfold aggT at this;(try split at this)<;>(try simp at this)<;>omega
   have HC:Hid (∀ (j:Nat) (v:Value),([.string A,.string B,.string C]:List Value)[j]?=some v→wr.cell? ⟨b,o+k*3+j,none⟩=some v):=fun j v hv=>by
    have:=hcc wr hw1 j v;change ([.string ⟨(y.1).toArray⟩,.string ⟨(y.2.1).toArray⟩,.string ⟨(y.2.2).toArray⟩]:List Value)[j]?=some v→_ at this
    rw[hA,hB,hC]at this;exact this hv
   have HW:Hid ((((A++⟨#[40]⟩)++B)++⟨#[41,32,97,115,32]⟩)++C=⟨(aggT y).toArray⟩):=by
    show _=_
    rw[← hA,← hB,← hC];show ((((⟨y.1.toArray⟩:ByteArray)++⟨([40]:Str).toArray⟩)++⟨y.2.1.toArray⟩)++⟨([41,32,97,115,32]:Str).toArray⟩)++⟨y.2.2.toArray⟩=_
    rw[za4,za4,za4,za4];congr 2
    unfold aggT;simp[List.append_assoc]
   have HROW:Hid (∀ (W:World) (q:Nat→Prop),Row W q (strD (aggT y)) [.string ((((A++⟨#[40]⟩)++B)++⟨#[41,32,97,115,32]⟩)++C)]):=fun W q=>by rw[HW.out];exact (Row.nil W q).cons (.v _ rfl)
   clear hrow hrow0 hrow1 hrow2 hcl hcc hy hyl HW h0 h1 h2 hA hB hC;have hkn:k+1≤1000000:=by omega
   have HKL:=hid hkn;have hbk:(k:Int)<(n:Int):=by omega
   clear hkn
   go_wp2_with (first|(refine zar (by rfl) (ty:=67) rfl rfl HC.out uAg_ sAg_ ?_)|(refine St.w_alloc (ty:=67) H.out (by rfl) rfl zAg_ rfl ?_;intro wn Cn _ _ H2;replace H:=hid H2;clear H2)|(first|(refine St.w_store (ty:=67) H.out (by rfl) rfl rfl rfl 0 rfl rfl rfl sAg_ (zae rfl) ?_;intro wn _ _ H2;replace H:=hid H2;clear H2))|(refine St.w_load1 (ty:=9) H.out (by rfl) rfl rfl 0 rfl rfl uStr_ ?_)|(refine St.w_load1 (ty:=4) H.out (by rfl) rfl rfl 0 rfl rfl zgl ?_)|(refine St.w_lit1 H.out (by rfl) rfl underlying48 iS2_ rfl rfl (by decide) (by decide) rfl rfl ?_;intro wl Cl H2;replace H:=hid H2;clear H2)|(refine St.w_append (r:=strD (aggT y)) H.out (by rfl) rfl underlying48 iS3_ rfl (by decide) (by decide) 0 rfl rfl rfl rfl rfl 0 rfl rfl (HROW.out _ _) (by rw[HRL.out];exact HKL.out) ?_;intro wl ao9 cap9 _ H2;replace H:=hid H2;clear H2))
   have H3:=(H.out.drop (L':=[(X,(plC x S0 S1 S2 S3 S4 (.slice (some ⟨b,o,none⟩) n ac5) S6))]) (by first|exact (.cons _ (.cons _ (List.Sublist.refl _)))|exact (.cons _ (List.Sublist.refl _))));simp only[List.set_cons_zero]at H3;rw[HRL.out]at H3;have H4:=hid H3;clear H H3;go_roundw
   case rel=>exact ⟨k+1,ao9,cap9,_,by omega,by first|rw[HRL.out]|rw[HMIN.out],by go_num,by show St _ _ _ _ _ _;rw[HTK.out];exact H4.out⟩
   case measure=>simp[intOf];omega
  ·obtain rfl:k=n:=by omega
   have htk:x.aggs.take k=x.aggs:=by rw[← HN.out,List.take_length]
   have hbk:¬ ((k:Int)<(k:Int)):=by omega
   have H3:=H.out.shut;have hrep:=repOf (H3.rowAt (j:=0) rfl);simp only at hrep;rw[htk,show x.aggs.map (fun y=>strD (aggT y))=(x.aggs.map aggT).map strD from by rw[List.map_map];rfl]at hrep;have hlm:(x.aggs.map aggT).length=k:=by rw[List.length_map,HN.out]
   have hj:=zcn [44,32] zdk (x.aggs.map aggT) ao cp wr _ (by rw[hlm];exact hrep) (by have:=HLN.out;omega) (by rw[hlm];omega);rw[hlm]at hj;have HJ:=hid hj;clear hj hrep H3 htk hlm;go_wp2_with (go_at_call 84;(with_reducible (refine HJ.out.mono ?_));rintro e w2 ⟨rfl,hb2⟩)
   go_ret
   exact ⟨rfl,two (zab H.out) hb2⟩
theorem zfK (x:Pl) (hlen:(joinS [44,32] (x.ord.map ordT)).length≤1000000) (a0 a1 a2 a3 a4 a5 a6:Option Addr) (ac0 ac1 ac2 ac3 ac4 ac5 ac6:Nat) (w:World) (ok:Nat→Prop) (hA:PlAt w ok x a0 ac0 a1 ac1 a2 ac2 a3 ac3 a4 ac4 a5 ac5 a6 ac6) :
 Calls Tryz.prog 126 #[plV x a0 ac0 a1 ac1 a2 ac2 a3 ac3 a4 ac4 a5 ac5 a6 ac6] w (StrTo (joinS [44,32] (x.ord.map ordT)) w):=by
 have H:=hid (St.start (S:=fun _=>False) w);have hR:=(show PlRep w ok x (.slice a0 x.xs.length ac0) (.slice a1 x.cond.xs.length ac1) (.slice a2 x.names.length ac2) (.slice a3 x.exprs.length ac3) (.slice a4 x.on.length ac4) (.slice a5 x.aggs.length ac5) (.slice a6 x.ord.length ac6) from hA).ord;have HLN:=hid hlen;have hcnt:x.ord.length≤600000:=by have:=zb7 (x.ord.map ordT);rw[List.length_map]at this;omega
 have hit:Hid (∀ y∈x.ord,(ordT y).length≤1000000):=fun y hy=>Nat.le_trans (zcL _ _ (List.mem_map.2 ⟨y,hy,rfl⟩)) hlen
 obtain ⟨n,hn⟩:∃ n,x.ord.length=n:=⟨_,rfl⟩;obtain ⟨S0,hS0⟩:∃ S:Value,Value.slice a0 x.xs.length ac0=S:=⟨_,rfl⟩;obtain ⟨S1,hS1⟩:∃ S:Value,Value.slice a1 x.cond.xs.length ac1=S:=⟨_,rfl⟩;obtain ⟨S2,hS2⟩:∃ S:Value,Value.slice a2 x.names.length ac2=S:=⟨_,rfl⟩;obtain ⟨S3,hS3⟩:∃ S:Value,Value.slice a3 x.exprs.length ac3=S:=⟨_,rfl⟩;obtain ⟨S4,hS4⟩:∃ S:Value,Value.slice a4 x.on.length ac4=S:=⟨_,rfl⟩;obtain ⟨S5,hS5⟩:∃ S:Value,Value.slice a5 x.aggs.length ac5=S:=⟨_,rfl⟩;have HV:Hid (plV x a0 ac0 a1 ac1 a2 ac2 a3 ac3 a4 ac4 a5 ac5 a6 ac6=.agg (plC x S0 S1 S2 S3 S4 S5 (.slice a6 n ac6)).toArray):=by show Value.agg (plC x (.slice a0 x.xs.length ac0) (.slice a1 x.cond.xs.length ac1) (.slice a2 x.names.length ac2) (.slice a3 x.exprs.length ac3) (.slice a4 x.on.length ac4) (.slice a5 x.aggs.length ac5) (.slice a6 x.ord.length ac6)).toArray=_;rw[hS0,hS1,hS2,hS3,hS4,hS5,hn]
 rw[HV.out];rw[hn]at hR hcnt;have HR:=hid hR;have HN:=hid hn;clear hA hR hlen hn HV hS0 hS1 hS2 hS3 hS4 hS5;go_enter func126,ntmps126
 go_wp2_with (first|(refine St.w_box (vs:=(plC x S0 S1 S2 S3 S4 S5 (.slice a6 n ac6))) H.out (by rfl) rfl rfl rfl ?_;intro wn X _ _ H2;replace H:=hid H2;clear H2)|(refine St.w_load1 (ty:=55) H.out (by rfl) rfl rfl 0 rfl rfl uSOr_ ?_))
 replace H:=hid (H.out.gather 9 1);go_loopw [3,10] (fun v i wr=>∃ (k:Nat) (ao:Option Addr) (cp:Nat) (cells:List (List Value)),k≤n∧v=.slice ao k cp∧i=.int .i64 k∧Hid (St (fun _=>False) w wr [(X,(plC x S0 S1 S2 S3 S4 S5 (.slice a6 n ac6)))] [] [⟨9,1,.slice ao k cp,(x.ord.take k).map (fun y=>strD (ordT y)),cells⟩])) (fun _ i _=>n-(intOf i).toNat)
 case atStart=>exact ⟨0,none,0,[],Nat.zero_le _,rfl,rfl,H⟩
 case round =>
  clear H;obtain ⟨k,ao,cp,cells,hk,rfl,rfl,H⟩:=hrel;have hw1:=zab H.out;have HRL:Hid (((x.ord.take k).map (fun y=>strD (ordT y))).length=k):=by show ((x.ord.take k).map (fun y=>strD (ordT y))).length=k;rw[List.length_map,List.length_take,HN.out];omega
  have HMIN:Hid (min k x.ord.length=k):=by show min k x.ord.length=k;rw[HN.out];omega
  by_cases hlt:k<n
  ·obtain ⟨y,hy⟩:∃ y,x.ord[k]?=some y:=⟨_,List.getElem?_eq_getElem (by rw[HN.out];exact hlt)⟩;obtain ⟨b,o,cs,rfl,hrow,hcl,hcc⟩:=HR.out.cellsR (i:=k) (r:=ordD y) (by rw[List.getElem?_map,hy];rfl);have hyl:=hit.out y (List.mem_of_getElem? hy);have HTK:=hid (zaR (fun y=>strD (ordT y)) hy);unfold ordD at hrow;obtain ⟨c0,r0,rfl,h0,hrow0⟩:=hrow.uncons;obtain rfl:=h0.val;obtain ⟨c1,r1,rfl,h1,hrow1⟩:=hrow0.uncons;obtain rfl:=h1.val;obtain rfl:=hrow1.unnil;obtain ⟨A,hA⟩:∃ N:ByteArray,(⟨(y.1).toArray⟩:ByteArray)=N:=⟨_,rfl⟩;obtain ⟨B,hB⟩:∃ N:Bool,y.2=N:=⟨_,rfl⟩;have hAs:A.size≤1000000:=by rw[← hA,sz_mk];have:=hyl;unfold ordT at this;(try split at this)<;>(try simp at this)<;>omega
   have HC:Hid (∀ (j:Nat) (v:Value),([.string A,.bool B]:List Value)[j]?=some v→wr.cell? ⟨b,o+k*2+j,none⟩=some v):=fun j v hv=>by
    have:=hcc wr hw1 j v;change ([.string ⟨(y.1).toArray⟩,.bool y.2]:List Value)[j]?=some v→_ at this
    rw[hA,hB]at this;exact this hv
   cases B with
   | true =>
    have HW:Hid (A++⟨#[32,100,111,119,110]⟩=⟨(ordT y).toArray⟩):=by
     show _=_
     rw[← hA];show (⟨y.1.toArray⟩:ByteArray)++⟨([32,100,111,119,110]:Str).toArray⟩=_
     rw[za4];unfold ordT;rw[if_pos hB]
    have HROW:Hid (∀ (W:World) (q:Nat→Prop),Row W q (strD (ordT y)) [.string (A++⟨#[32,100,111,119,110]⟩)]):=fun W q=>by rw[HW.out];exact (Row.nil W q).cons (.v _ rfl)
    clear hrow hrow0 hrow1 hcl hcc hy hyl HW h0 h1 hA hB;have hkn:k+1≤1000000:=by omega
    have HKL:=hid hkn;have hbk:(k:Int)<(n:Int):=by omega
    clear hkn
    go_wp2_with (first|(refine zar (by rfl) (ty:=69) rfl rfl HC.out uOr_ sOr_ ?_)|(refine St.w_alloc (ty:=69) H.out (by rfl) rfl zOr_ rfl ?_;intro wn Cn _ _ H2;replace H:=hid H2;clear H2)|(first|(refine St.w_store (ty:=69) H.out (by rfl) rfl rfl rfl 0 rfl rfl rfl sOr_ (zae rfl) ?_;intro wn _ _ H2;replace H:=hid H2;clear H2))|(refine St.w_load1 (ty:=9) H.out (by rfl) rfl rfl 0 rfl rfl uStr_ ?_)|(refine St.w_load1 (ty:=4) H.out (by rfl) rfl rfl 0 rfl rfl zgl ?_)|(refine St.w_lit1 H.out (by rfl) rfl underlying48 iS2_ rfl rfl (by decide) (by decide) rfl rfl ?_;intro wl Cl H2;replace H:=hid H2;clear H2)|(refine St.w_append (r:=strD (ordT y)) H.out (by rfl) rfl underlying48 iS3_ rfl (by decide) (by decide) 0 rfl rfl rfl rfl rfl 0 rfl rfl (HROW.out _ _) (by rw[HRL.out];exact HKL.out) ?_;intro wl ao9 cap9 _ H2;replace H:=hid H2;clear H2))
    have H3:=(H.out.drop (L':=[(X,(plC x S0 S1 S2 S3 S4 S5 (.slice (some ⟨b,o,none⟩) n ac6)))]) (by first|exact (.cons _ (.cons _ (List.Sublist.refl _)))|exact (.cons _ (List.Sublist.refl _))));simp only[List.set_cons_zero]at H3;rw[HRL.out]at H3;have H4:=hid H3;clear H H3;go_roundw
    case rel=>exact ⟨k+1,ao9,cap9,_,by omega,by first|rw[HRL.out]|rw[HMIN.out],by go_num,by show St _ _ _ _ _ _;rw[HTK.out];exact H4.out⟩
    case measure=>simp[intOf];omega
   | false =>
    have HW:Hid (A=⟨(ordT y).toArray⟩):=by
     show _=_
     rw[← hA];unfold ordT;rw[if_neg (by rw[hB];decide)]
    have HROW:Hid (∀ (W:World) (q:Nat→Prop),Row W q (strD (ordT y)) [.string (A)]):=fun W q=>by rw[HW.out];exact (Row.nil W q).cons (.v _ rfl)
    clear hrow hrow0 hrow1 hcl hcc hy hyl HW h0 h1 hA hB;have hkn:k+1≤1000000:=by omega
    have HKL:=hid hkn;have hbk:(k:Int)<(n:Int):=by omega
    clear hkn
    go_wp2_with (first|(refine zar (by rfl) (ty:=69) rfl rfl HC.out uOr_ sOr_ ?_)|(refine St.w_alloc (ty:=69) H.out (by rfl) rfl zOr_ rfl ?_;intro wn Cn _ _ H2;replace H:=hid H2;clear H2)|(first|(refine St.w_store (ty:=69) H.out (by rfl) rfl rfl rfl 0 rfl rfl rfl sOr_ (zae rfl) ?_;intro wn _ _ H2;replace H:=hid H2;clear H2))|(refine St.w_load1 (ty:=9) H.out (by rfl) rfl rfl 0 rfl rfl uStr_ ?_)|(refine St.w_load1 (ty:=4) H.out (by rfl) rfl rfl 0 rfl rfl zgl ?_)|(refine St.w_lit1 H.out (by rfl) rfl underlying48 iS2_ rfl rfl (by decide) (by decide) rfl rfl ?_;intro wl Cl H2;replace H:=hid H2;clear H2)|(refine St.w_append (r:=strD (ordT y)) H.out (by rfl) rfl underlying48 iS3_ rfl (by decide) (by decide) 0 rfl rfl rfl rfl rfl 0 rfl rfl (HROW.out _ _) (by rw[HRL.out];exact HKL.out) ?_;intro wl ao9 cap9 _ H2;replace H:=hid H2;clear H2))
    have H3:=(H.out.drop (L':=[(X,(plC x S0 S1 S2 S3 S4 S5 (.slice (some ⟨b,o,none⟩) n ac6)))]) (by first|exact (.cons _ (.cons _ (List.Sublist.refl _)))|exact (.cons _ (List.Sublist.refl _))));simp only[List.set_cons_zero]at H3;rw[HRL.out]at H3;have H4:=hid H3;clear H H3;go_roundw
    case rel=>exact ⟨k+1,ao9,cap9,_,by omega,by first|rw[HRL.out]|rw[HMIN.out],by go_num,by show St _ _ _ _ _ _;rw[HTK.out];exact H4.out⟩
    case measure=>simp[intOf];omega
  ·obtain rfl:k=n:=by omega
   have htk:x.ord.take k=x.ord:=by rw[← HN.out,List.take_length]
   have hbk:¬ ((k:Int)<(k:Int)):=by omega
   have H3:=H.out.shut;have hrep:=repOf (H3.rowAt (j:=0) rfl);simp only at hrep;rw[htk,show x.ord.map (fun y=>strD (ordT y))=(x.ord.map ordT).map strD from by rw[List.map_map];rfl]at hrep;have hlm:(x.ord.map ordT).length=k:=by rw[List.length_map,HN.out]
   have hj:=zcn [44,32] zdk (x.ord.map ordT) ao cp wr _ (by rw[hlm];exact hrep) (by have:=HLN.out;omega) (by rw[hlm];omega);rw[hlm]at hj;have HJ:=hid hj;clear hj hrep H3 htk hlm;go_wp2_with (go_at_call 84;(with_reducible (refine HJ.out.mono ?_));rintro e w2 ⟨rfl,hb2⟩)
   go_ret
   exact ⟨rfl,two (zab H.out) hb2⟩
theorem zo0 (x:Pl) (hE:∀ e∈x.exprs,OkE e) (hm:x.exprs.length=x.names.length) (hlen:(joinS [44,32] (keptL x.exprs x.names)).length≤1000000) (a0 a1 a2 a3 a4 a5 a6:Option Addr) (ac0 ac1 ac2 ac3 ac4 ac5 ac6:Nat) (w:World) (ok:Nat→Prop) (hA:PlAt w ok x a0 ac0 a1 ac1 a2 ac2 a3 ac3 a4 ac4 a5 ac5 a6 ac6) (hX:EnvX w) :
 Calls Tryz.prog 123 #[plV x a0 ac0 a1 ac1 a2 ac2 a3 ac3 a4 ac4 a5 ac5 a6 ac6] w (StrTo (joinS [44,32] (keptL x.exprs x.names)) w):=by
 have H:=hid (St.start (S:=fun _=>False) w);have hR:=(show PlRep w ok x (.slice a0 x.xs.length ac0) (.slice a1 x.cond.xs.length ac1) (.slice a2 x.names.length ac2) (.slice a3 x.exprs.length ac3) (.slice a4 x.on.length ac4) (.slice a5 x.aggs.length ac5) (.slice a6 x.ord.length ac6) from hA).exprs;have hR2:=(show PlRep w ok x (.slice a0 x.xs.length ac0) (.slice a1 x.cond.xs.length ac1) (.slice a2 x.names.length ac2) (.slice a3 x.exprs.length ac3) (.slice a4 x.on.length ac4) (.slice a5 x.aggs.length ac5) (.slice a6 x.ord.length ac6) from hA).names;rw[zeB _ _ hm]at hlen ⊢;obtain ⟨zs,hzs⟩:∃ zs,x.exprs.zip x.names=zs:=⟨_,rfl⟩;have e1:zs.map (·.1)=x.exprs:=by rw[← hzs];exact List.map_fst_zip (by omega)
 have e2:zs.map (·.2)=x.names:=by rw[← hzs];exact List.map_snd_zip (by omega)
 rw[hzs]at hlen ⊢;have HLN:=hid hlen;have HEX:=hid (fun W (hW:Below w.heap.size w W)=>hX.below hW);obtain ⟨n,hn⟩:∃ n,x.exprs.length=n:=⟨_,rfl⟩;have hzn:zs.length=n:=by rw[← hn,← e1,List.length_map]
 have hcnt:n≤600000:=by have:=zb7 (zs.map fun p=>keepT p.1 p.2);rw[List.length_map]at this;omega
 have hit:Hid (∀ y∈zs,(keepT y.1 y.2).length≤1000000∧OkE y.1):=fun y hy=>⟨Nat.le_trans (zcL _ _ (List.mem_map.2 ⟨y,hy,rfl⟩)) hlen,hE _ (by rw[← e1];exact List.mem_map.2 ⟨y,hy,rfl⟩)⟩
 obtain ⟨m,hm'⟩:∃ m,x.names.length=m:=⟨_,rfl⟩;have hmn:m=n:=by omega
 obtain ⟨S0,hS0⟩:∃ S:Value,Value.slice a0 x.xs.length ac0=S:=⟨_,rfl⟩;obtain ⟨S1,hS1⟩:∃ S:Value,Value.slice a1 x.cond.xs.length ac1=S:=⟨_,rfl⟩;obtain ⟨S4,hS4⟩:∃ S:Value,Value.slice a4 x.on.length ac4=S:=⟨_,rfl⟩;obtain ⟨S5,hS5⟩:∃ S:Value,Value.slice a5 x.aggs.length ac5=S:=⟨_,rfl⟩;obtain ⟨S6,hS6⟩:∃ S:Value,Value.slice a6 x.ord.length ac6=S:=⟨_,rfl⟩;have HV:Hid (plV x a0 ac0 a1 ac1 a2 ac2 a3 ac3 a4 ac4 a5 ac5 a6 ac6=.agg (plC x S0 S1 (.slice a2 m ac2) (.slice a3 n ac3) S4 S5 S6).toArray):=by show Value.agg (plC x (.slice a0 x.xs.length ac0) (.slice a1 x.cond.xs.length ac1) (.slice a2 x.names.length ac2) (.slice a3 x.exprs.length ac3) (.slice a4 x.on.length ac4) (.slice a5 x.aggs.length ac5) (.slice a6 x.ord.length ac6)).toArray=_;rw[hS0,hS1,hS4,hS5,hS6,hn,hm']
 rw[HV.out];rw[hn,zcV,← e1]at hR;rw[hm',← e2]at hR2;have HR:=hid hR;have HR2:=hid hR2;have HN:=hid hzn;clear hA hR hR2 hlen hn HV hm hm' hzs e1 e2 hzn hE hX hS0 hS1 hS4 hS5 hS6;go_enter func123,ntmps123
 go_wp2_with (first|(refine St.w_box (vs:=(plC x S0 S1 (.slice a2 m ac2) (.slice a3 n ac3) S4 S5 S6)) H.out (by rfl) rfl rfl rfl ?_;intro wn X _ _ H2;replace H:=hid H2;clear H2)|(refine St.w_load1 (ty:=25) H.out (by rfl) rfl rfl 0 rfl rfl uSEx_ ?_))
 replace H:=hid (H.out.gather 9 1);go_loopw [3,10] (fun v i wr=>∃ (k:Nat) (ao:Option Addr) (cp:Nat) (cells:List (List Value)),k≤n∧v=.slice ao k cp∧i=.int .i64 k∧Hid (St (fun _=>False) w wr [(X,(plC x S0 S1 (.slice a2 m ac2) (.slice a3 n ac3) S4 S5 S6))] [] [⟨9,1,.slice ao k cp,(zs.take k).map (fun y=>strD (keepT y.1 y.2)),cells⟩])) (fun _ i _=>n-(intOf i).toNat)
 case atStart=>exact ⟨0,none,0,[],Nat.zero_le _,rfl,rfl,H⟩
 case round =>
  clear H;obtain ⟨k,ao,cp,cells,hk,rfl,rfl,H⟩:=hrel;have hw1:=zab H.out;have HRL:Hid (((zs.take k).map (fun y=>strD (keepT y.1 y.2))).length=k):=by show ((zs.take k).map (fun y=>strD (keepT y.1 y.2))).length=k;rw[List.length_map,List.length_take,HN.out];omega
  have HMIN:Hid (min k zs.length=k):=by show min k zs.length=k;rw[HN.out];omega
  by_cases hlt:k<n
  ·obtain ⟨y,hy⟩:∃ y,zs[k]?=some y:=⟨_,List.getElem?_eq_getElem (by rw[HN.out];exact hlt)⟩;obtain ⟨b,o,cs,rfl,hrow,hcl,hcc⟩:=HR.out.cellsR (i:=k) (r:=exD y.1) (by rw[List.getElem?_map,List.getElem?_map,hy];rfl);obtain ⟨b2,o2,cs2,rfl,hrow2,hcl2,hcc2⟩:=HR2.out.cellsR (i:=k) (r:=strD y.2) (by rw[List.getElem?_map,List.getElem?_map,hy];rfl);obtain ⟨hyl,hye⟩:=hit.out y (List.mem_of_getElem? hy);have HTK:=hid (zaR (fun y:Ex×Str=>strD (keepT y.1 y.2)) hy);obtain ⟨sl,rfl,hxs⟩:=zim hrow;obtain ⟨ua,uc,rfl,_⟩:=XArgs.len hxs;obtain ⟨z0,r0,rfl,q0,hrow3⟩:=hrow2.uncons;obtain rfl:=q0.val;obtain rfl:=hrow3.unnil;obtain ⟨e,u⟩:=y;simp only at hyl hye hxs hcc hcc2;unfold keepT at hyl;have hel:(textE e).length≤1000000:=by simp at hyl;omega
   obtain ⟨T,hT⟩:∃ T:ByteArray,(⟨(textE e).toArray⟩:ByteArray)=T:=⟨_,rfl⟩;obtain ⟨B,hB⟩:∃ T:ByteArray,(⟨u.toArray⟩:ByteArray)=T:=⟨_,rfl⟩;have hTs:T.size≤1000000:=by rw[← hT,sz_mk];exact hel
   have hBs:B.size≤1000000:=by rw[← hB,sz_mk];simp at hyl;omega
   have HTX:Hid (∀ W,Below w.heap.size w W→Calls Tryz.prog 46 #[exV e (.slice ua e.xs.length uc)] W fun e w'=>e=.returned (.string T)∧Below W.heap.size W w'):=fun W hW=>by
    have:=text_any e ua uc W ok (hxs.below hW) (HEX.out W hW) (zml e hye) (Nat.le_trans hel (LimE_ge e));unfold StrTo at this;rw[hT]at this;exact this
   have HC:Hid (∀ (j:Nat) (v:Value),(exC e (.slice ua e.xs.length uc))[j]?=some v→wr.cell? ⟨b,o+k*7+j,none⟩=some v):=fun j v hv=>hcc wr hw1 j v hv
   have HC2:Hid (∀ W,Below w.heap.size w W→W.cell? ⟨b2,o2+k,none⟩=some (.string B)):=fun W hW=>by
    have:=hcc2 W hW 0 _ rfl;rw[Nat.mul_one,Nat.add_zero]at this;rw[← hB];exact this
   have HW:Hid ((T++⟨#[32,97,115,32]⟩)++B=⟨(keepT e u).toArray⟩):=by
    show _=_
    rw[← hT,← hB];show ((⟨(textE e).toArray⟩:ByteArray)++⟨([32,97,115,32]:Str).toArray⟩)++⟨u.toArray⟩=_
    rw[za4,za4];congr 2
    unfold keepT;simp[List.append_assoc]
   have HROW:Hid (∀ (W:World) (q:Nat→Prop),Row W q (strD (keepT e u)) [.string ((T++⟨#[32,97,115,32]⟩)++B)]):=fun W q=>by rw[HW.out];exact (Row.nil W q).cons (.v _ rfl)
   clear hrow hcl hcc hcl2 hcc2 hrow2 hrow3 hy hyl hye hxs hel hT hB q0 HW;have hkn:k+1≤1000000:=by omega
   have HKL:=hid hkn;have hbk:(k:Int)<(n:Int):=by omega
   have hbm:(k:Int)<(m:Int):=by omega
   have hbmn:k<m:=by omega
   clear hkn
   go_wp2_with (first|(refine zar (by rfl) (ty:=27) rfl rfl HC.out uEx_ sEx_ ?_)|(refine St.w_alloc (ty:=27) H.out (by rfl) rfl zEx_ rfl ?_;intro wn Cn _ _ H2;replace H:=hid H2;clear H2)|(first|(refine St.w_store (ty:=27) H.out (by rfl) rfl rfl rfl 0 rfl rfl rfl sEx_ (zae rfl) ?_;intro wn _ _ H2;replace H:=hid H2;clear H2))|(refine St.w_load1 (ty:=48) H.out (by rfl) rfl rfl 1 rfl rfl zd8 ?_)|(refine zb9 (by rfl) (ty:=9) rfl rfl (HC2.out _ (zab H.out)) uStr_ ?_)|(refine St.w_load (ty:=27) H.out (by rfl) rfl rfl 0 rfl uEx_ sEx_ ?_)|(go_at_call 46;(with_reducible (refine (HTX.out _ (zab H.out)).mono ?_));rintro e wc ⟨rfl,hb9⟩;replace H:=hid (H.out.below hb9);clear hb9)|(refine St.w_lit1 H.out (by rfl) rfl underlying48 iS2_ rfl rfl (by decide) (by decide) rfl rfl ?_;intro wl Cl H2;replace H:=hid H2;clear H2)|(refine St.w_append (r:=strD (keepT e u)) H.out (by rfl) rfl underlying48 iS3_ rfl (by decide) (by decide) 0 rfl rfl rfl rfl rfl 0 rfl rfl (HROW.out _ _) (by rw[HRL.out];exact HKL.out) ?_;intro wl ao9 cap9 _ H2;replace H:=hid H2;clear H2))
   have H3:=(H.out.drop (L':=[(X,(plC x S0 S1 (.slice (some ⟨b2,o2,none⟩) m ac2) (.slice (some ⟨b,o,none⟩) n ac3) S4 S5 S6))]) (.cons _ (.cons _ (List.Sublist.refl _))));simp only[List.set_cons_zero]at H3;rw[HRL.out]at H3;have H4:=hid H3;clear H H3;go_roundw
   case rel=>exact ⟨k+1,ao9,cap9,_,by omega,by first|rw[HRL.out]|rw[HMIN.out],by go_num,by show St _ _ _ _ _ _;rw[HTK.out];exact H4.out⟩
   case measure=>simp[intOf];omega
  ·obtain rfl:k=n:=by omega
   have htk:zs.take k=zs:=by rw[← HN.out,List.take_length]
   have hbk:¬ ((k:Int)<(k:Int)):=by omega
   have H3:=H.out.shut;have hrep:=repOf (H3.rowAt (j:=0) rfl);simp only at hrep;rw[htk,show zs.map (fun y=>strD (keepT y.1 y.2))=(zs.map fun p=>keepT p.1 p.2).map strD from by rw[List.map_map];rfl]at hrep;have hlm:(zs.map fun p=>keepT p.1 p.2).length=k:=by rw[List.length_map,HN.out]
   have hj:=zcn [44,32] zdk (zs.map fun p=>keepT p.1 p.2) ao cp wr _ (by rw[hlm];exact hrep) (by have:=HLN.out;omega) (by rw[hlm];omega);rw[hlm]at hj;have HJ:=hid hj;clear hj hrep H3 htk hlm;go_wp2_with (go_at_call 84;(with_reducible (refine HJ.out.mono ?_));rintro e w2 ⟨rfl,hb2⟩)
   go_ret
   exact ⟨rfl,two (zab H.out) hb2⟩
end Go.Proofs.YtonkjhmkppeagaaGreatDoor.Pz
