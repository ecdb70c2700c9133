/- Walks: the text of a definition. -/
import Derived.Test.YtonkjhmkppeagaaGreatDoorVShF
import Derived.Test.YtonkjhmkppeagaaGreatDoorVShC
import Derived.Test.YtonkjhmkppeagaaGreatDoorVTs
set_option maxRecDepth 100000
set_option maxHeartbeats 12800000
set_option linter.unusedVariables false
set_option linter.unusedSimpArgs false
namespace Go.Proofs.YtonkjhmkppeagaaGreatDoor.Pz
open Go.Proofs.Tryz
open Go.Lib (hid)
open Go.RowKit Go Go.Sort Ba Lx
theorem zs8 (nm:Str) (cols:List (Str×Int)) (K A B:Int) (a0:-9223372036854775808≤A) (a1:A≤9223372036854775807) (b0:-9223372036854775808≤B) (b1:B≤9223372036854775807) (ca:Option Addr) (cc:Nat) (s1 p0 p1 p2 p3 p4 p5 p6 p7 p8 p9 pa pb pc pd pe pf cr s2:Value) (w:World) (hE:EnvX w) (ok:Nat→Prop) (hC:Rep w ok (.sl 2 (cols.map colD)) (.slice ca cols.length cc)) (hcn:cols.length≤600000) (hlen:(zaC [zba,nm,40::(joinS [44,32] (cols.map colT)++[41]),scT ⟨K,A,B⟩]).length≤100000000) :
 Calls Tryz.prog 74 #[.agg #[.int .i64 1,.string ⟨nm.toArray⟩,.slice ca cols.length cc,.int .i64 K,.int .i64 A,.int .i64 B,s1,p0,p1,p2,p3,p4,p5,p6,p7,p8,p9,pa,pb,pc,pd,pe,pf,cr,s2]] w (StrTo (zaC [zba,nm,40::(joinS [44,32] (cols.map colT)++[41]),scT ⟨K,A,B⟩]++[59,10]) w):=by
 have H:=hid (St.start (S:=fun _=>False) w);obtain ⟨N,hN⟩:∃ T:ByteArray,(⟨(nm).toArray⟩:ByteArray)=T:=⟨_,rfl⟩;obtain ⟨PT,hPT⟩:∃ T:ByteArray,(⟨(scT ⟨K,A,B⟩).toArray⟩:ByteArray)=T:=⟨_,rfl⟩;obtain ⟨L,hL⟩:∃ n,cols.length=n:=⟨_,rfl⟩;rw[hL]at hC ⊢;rw[hN];have HPT:Hid (∀ W,Below w.heap.size w W→Calls Tryz.prog 100 #[.agg #[.int .i64 1,.string N,.slice ca L cc,.int .i64 K,.int .i64 A,.int .i64 B,s1,p0,p1,p2,p3,p4,p5,p6,p7,p8,p9,pa,pb,pc,pd,pe,pf,cr,s2]] W (fun e w'=>e=.returned (.string PT)∧Below W.heap.size W w')):=fun W hW=>by
  have:=zgP K A B a0 a1 b0 b1 (.int .i64 1) (.string N) (.slice ca L cc) (s1) (p0) (p1) (p2) (p3) (p4) (p5) (p6) (p7) (p8) (p9) (pa) (pb) (pc) (pd) (pe) (pf) (cr) (s2) W (hE.below hW);unfold StrTo at this;rw[hPT]at this;exact this
 obtain ⟨J,hJ⟩:∃ T:ByteArray,(⟨(joinS [44,32] (cols.map colT)).toArray⟩:ByteArray)=T:=⟨_,rfl⟩;have hl1:=yH (zfU (l:=[zba,nm,40::(joinS [44,32] (cols.map colT)++[41]),scT ⟨K,A,B⟩]) (a:=40::(joinS [44,32] (cols.map colT)++[41])) (by simp)) hlen;have hl2:(joinS [44,32] (cols.map colT)).length≤100000000:=by simp only[yB,yA]at hl1;omega
 have hJs:J.size≤100000000:=by rw[← hJ,sz_mk];exact hl2
 have hcnt:L≤600000:=by rw[← hL];exact hcn
 have hbr:(⟨(40::(joinS [44,32] (cols.map colT)++[41])).toArray⟩:ByteArray)=(⟨#[40]⟩++J)++⟨#[41]⟩:=by
  rw[← hJ];show _=((⟨([40]:Str).toArray⟩:ByteArray)++⟨(joinS [44,32] (cols.map colT)).toArray⟩)++⟨([41]:Str).toArray⟩
  rw[zbD,zbD];congr 2
 obtain ⟨R,hR⟩:∃ R:ByteArray,(⟨(zaC [zba,nm,40::(joinS [44,32] (cols.map colT)++[41]),scT ⟨K,A,B⟩]).toArray⟩:ByteArray)=R:=⟨_,rfl⟩;have hRs:R.size≤100000000:=by rw[← hR,sz_mk];exact hlen
 have HWD:Hid (∀ W g,Box W g [.string ⟨#[115,111,117,114,99,101]⟩,.string N,.string ((⟨#[40]⟩++J)++⟨#[41]⟩),.string PT]→Calls Tryz.prog 99 #[.slice (some ⟨g,0,none⟩) 4 4] W (fun e w'=>e=.returned (.string R)∧Kept (fun b=>b=g) W w')):=fun W g hb=>by
  have:=zdo [zba,nm,40::(joinS [44,32] (cols.map colT)++[41]),scT ⟨K,A,B⟩] g W (by show Box W g [strV (zba),strV (nm),strV (40::(joinS [44,32] (cols.map colT)++[41])),strV (scT ⟨K,A,B⟩)];unfold strV;rw[hN,hbr,hPT];exact hb) (by show 4≤1000000;decide) (by omega);unfold zex at this;rw[hR]at this;exact this
 have HRR:Hid (R++⟨#[59,10]⟩=⟨(zaC [zba,nm,40::(joinS [44,32] (cols.map colT)++[41]),scT ⟨K,A,B⟩]++[59,10]).toArray⟩):=by
  show _=_
  rw[← hR];show (⟨(zaC [zba,nm,40::(joinS [44,32] (cols.map colT)++[41]),scT ⟨K,A,B⟩]).toArray⟩:ByteArray)++⟨([59,10]:Str).toArray⟩=_
  rw[zbD]
 have hzR:¬ 9223372036854775807<R.size+2:=by omega
 have HJ:Hid (∀ W (q:Nat→Prop) ao cp,Rep W q (.sl 1 ((cols.map colT).map strD)) (.slice ao L cp)→Calls Tryz.prog 84 #[.slice ao L cp,.string ⟨#[44,32]⟩] W (fun e w'=>e=.returned (.string J)∧Below W.heap.size W w')):=fun W q ao cp hR=>by
  have hlm:(cols.map colT).length=L:=by rw[yC,hL]
  have:=zeO [44,32] zgn (cols.map colT) ao cp W q (by rw[hlm];exact hR) (by omega) (by omega);unfold StrTo at this;rw[hJ,hlm]at this;exact this
 have hzJ1:¬ 9223372036854775807<1+J.size:=by omega
 have hzJ2:¬ 9223372036854775807<1+J.size+1:=by omega
 have HIT:Hid (∀ y∈cols,y.1.length≤100000000):=fun y hy=>by
  have:=yH (zeQ (l:=cols.map colT) _ (List.mem_map.2 ⟨y,hy,rfl⟩)) hl2;unfold colT at this;simp only[yA]at this;omega
 have HR:=hid hC;have HN:=hid hL;clear hE a0 a1 b0 b1 hC hcn hlen hL hl1 hl2 hbr hR hPT hN hJ;go_enter func74,ntmps74
 go_wp2_with (first|(refine St.w_box (vs:=[.int .i64 1,.string N,.slice ca L cc,.int .i64 K,.int .i64 A,.int .i64 B,s1,p0,p1,p2,p3,p4,p5,p6,p7,p8,p9,pa,pb,pc,pd,pe,pf,cr,s2]) H.out (by rfl) rfl rfl rfl ?_;intro wn X _ _ H2;replace H:=hid H2;clear H2)|(refine St.w_load1 (ty:=3) H.out (by rfl) rfl rfl 0 rfl rfl uInt_ ?_)|(refine St.w_load1 (ty:=83) H.out (by rfl) rfl rfl 0 rfl rfl uSch_ ?_))
 replace H:=hid (H.out.gather 9 1);go_loopw [3,16] (fun v i wr=>∃ (k:Nat) (ao:Option Addr) (cp:Nat) (cells:List (List Value)),k≤L∧v=.slice ao k cp∧i=.int .i64 k∧Hid (St (fun _=>False) w wr [(X,[.int .i64 1,.string N,.slice ca L cc,.int .i64 K,.int .i64 A,.int .i64 B,s1,p0,p1,p2,p3,p4,p5,p6,p7,p8,p9,pa,pb,pc,pd,pe,pf,cr,s2])] [] [⟨9,1,.slice ao k cp,(cols.take k).map (fun y=>strD (colT y)),cells⟩])) (fun _ i _=>L-(intOf i).toNat)
 case atStart=>exact ⟨0,none,0,[],yS _,rfl,rfl,H⟩
 case round =>
  clear H;obtain ⟨k,ao,cp,cells,hk,rfl,rfl,H⟩:=hrel;have hw1:=zac H.out;have HRL:Hid (((cols.take k).map (fun y=>strD (colT y))).length=k):=by show _=_;rw[yC,List.length_take,HN.out];omega
  have HMIN:Hid (min k cols.length=k):=by show _=_;rw[HN.out];omega
  by_cases hlt:k<L
  ·obtain ⟨⟨y,yt⟩,hy⟩:∃ y,cols[k]?=some y:=⟨_,yF (by rw[HN.out];exact hlt)⟩;obtain ⟨cb,co,rfl,hcc⟩:=HR.out.cells_at (i:=k) (r:=colD (y,yt)) (vs:=[.string ⟨y.toArray⟩,.int .i64 yt]) (by rw[yQ,hy];rfl) rfl;have hyl:=HIT.out _ (yP hy);have HTK:=hid (zbF (fun y=>strD (colT y)) hy);obtain ⟨Y,hY⟩:∃ J:ByteArray,(⟨y.toArray⟩:ByteArray)=J:=⟨_,rfl⟩;have hYs:Y.size≤100000000:=by rw[← hY,sz_mk];exact hyl
   rw[hY]at hcc;have HC:Hid (∀ (j:Nat) (v:Value),([.string Y,.int .i64 yt]:List Value)[j]?=some v→wr.cell? ⟨cb,co+k*2+j,none⟩=some v):=fun j v hv=>by have:=hcc wr hw1 j v hv;rw[← Nat.add_assoc]at this;exact this
   have HY:=hid hY;have hkn:k+1≤1000000:=by omega
   have HKL:=hid hkn;have hbk:(k:Int)<(L:Int):=by omega
   have hz1:¬ 9223372036854775807<Y.size+1:=by omega
   have hz2:¬ 9223372036854775807<Y.size+1+3:=by omega
   have hz3:¬ 9223372036854775807<Y.size+1+4:=by omega
   clear hcc hkn hy hY hyl;by_cases hyt:2≤yt
   ·skip
    have HW:Hid ((Y++⟨#[32]⟩)++⟨#[116,101,120,116]⟩=⟨(colT (y,yt)).toArray⟩):=by
     show _=_
     rw[← HY.out];show ((⟨y.toArray⟩:ByteArray)++⟨([32]:Str).toArray⟩)++⟨([116,101,120,116]:Str).toArray⟩=_
     rw[zbD,zbD];congr 2
     unfold colT;simp only;rw[if_pos hyt];simp[sText,sInt]
    have HROW:Hid (∀ (W:World) (q:Nat→Prop),Row W q (strD (colT (y,yt))) [.string ((Y++⟨#[32]⟩)++⟨#[116,101,120,116]⟩)]):=fun W q=>by rw[HW.out];exact (Row.nil W q).cons (.v _ rfl)
    clear HW;have m1:min yt 2=2:=by omega
    have m2:IntKind.i64.wrap ((max 2 1:Int)-1)=1:=by rfl
    go_upto_region 7 with (first|(refine zaF (by rfl) (ty:=92) rfl rfl HC.out uCo_ sCo_ ?_)|(refine St.w_alloc (ty:=92) H.out (by rfl) rfl zCo_ rfl ?_;intro wn Cb _ _ H2;replace H:=hid H2;clear H2)|(refine St.w_store (ty:=92) H.out (by rfl) rfl rfl rfl 0 rfl rfl rfl sCo_ (zad rfl) ?_;intro wn _ _ H2;replace H:=hid H2;clear H2))
    refine zaa 15 (S:=fun W=>W.cell? ⟨Cb,0,none⟩=some (.string Y)∧W.cell? ⟨Cb,1,none⟩=some (.int .i64 yt)) (by kernel_rfl) (by exact ⟨H.out.drew.cellS (i:=0) rfl rfl,H.out.drew.cellS (i:=0) rfl rfl⟩) (fun zJ=>?_);replace H:=hid H.out.drew;refine tKm 0 ?_;refine tKm 1 ?_;refine tKm 2 ?_;refine tKm 3 ?_;refine tKm 5 ?_;refine tKm 6 ?_;refine tKm 7 ?_;refine tKm 8 ?_;refine tKm 9 ?_;refine rK1 4 fun K hK=>?_
    rw[if_pos (by rfl)];refine H.out.o_lit rfl underlying48 iS2_ [.string ⟨#[105,110,116]⟩,.string ⟨#[116,101,120,116]⟩] rfl rfl rfl (by decide) (by decide) (by decide) (all_k rfl) rfl (fun wl Lb _ H2=>?_);refine hK.out _ _ ?_ (fun zH=>?_)
    ·exact ⟨H2.cellS (i:=1) rfl rfl,H2.cellS (i:=1) rfl rfl⟩
    replace zJ:=zH;clear hK K;replace H:=hid H2;clear H2;refine tKm 10 ?_;refine rK1 11 fun K hK=>?_
    rw[if_pos (by rfl)];refine zdF (ty:=9) rfl rfl (H.out.cellS (i:=0) (off:=1) rfl rfl) uStr_ ?_;refine hK.out _ _ ?_ (fun zH=>?_)
    ·exact ⟨H.out.cellS (i:=1) rfl rfl,H.out.cellS (i:=1) rfl rfl⟩
    replace zJ:=zH;clear hK K;refine tKm 12 ?_;refine rK1 13 fun K hK=>?_
    rw[if_pos (by rfl)];refine H.out.o_lit1 rfl underlying48 iS2_ rfl rfl (by decide) (by decide) rfl rfl (fun wl Cl _ H2=>?_);refine hK.out _ _ ?_ (fun zH=>?_)
    ·exact ⟨H2.cellS (i:=2) rfl rfl,H2.cellS (i:=2) rfl rfl⟩
    replace zJ:=zH;clear hK K;replace H:=hid H2;clear H2;refine rK1 14 fun K hK=>?_
    rw[if_pos (by rfl)];refine H.out.o_append (r:=strD (colT (y,yt))) rfl underlying48 iS3_ rfl (by decide) (by decide) 0 rfl rfl rfl rfl rfl 0 rfl rfl (HROW.out _ _) (by rw[HRL.out];exact HKL.out) (fun wl ao9 cap9 _ H2=>?_);refine hK.out _ _ ?_ (fun zH=>?_)
    ·exact ⟨H2.cellS (i:=2) rfl rfl,H2.cellS (i:=2) rfl rfl⟩
    replace zJ:=zH;clear hK K;replace H:=hid H2;clear H2;refine rKl 15 fun K hK=>?_
    go_simp;refine hK.out _ _ ?_;clear hK K;refine rKd ?_;go_wp2_with fail
    have H3:=H.out.drop (L':=[(X,[.int .i64 1,.string N,.slice (some ⟨cb,co,none⟩) L cc,.int .i64 K,.int .i64 A,.int .i64 B,s1,p0,p1,p2,p3,p4,p5,p6,p7,p8,p9,pa,pb,pc,pd,pe,pf,cr,s2])]) (by first|exact (.cons _ (.cons _ (.cons _ (List.Sublist.refl _))))|exact (.cons _ (.cons _ (List.Sublist.refl _))));simp only[List.set_cons_zero]at H3;rw[HRL.out]at H3;have H4:=hid H3;clear H H3;go_roundw
    case rel=>exact ⟨k+1,ao9,cap9,_,by omega,by first|rw[HRL.out]|rw[HMIN.out],by go_num,by show St _ _ _ _ _ _;rw[HTK.out];exact H4.out⟩
    case measure=>simp[intOf];omega
   ·skip
    have HW:Hid ((Y++⟨#[32]⟩)++⟨#[105,110,116]⟩=⟨(colT (y,yt)).toArray⟩):=by
     show _=_
     rw[← HY.out];show ((⟨y.toArray⟩:ByteArray)++⟨([32]:Str).toArray⟩)++⟨([105,110,116]:Str).toArray⟩=_
     rw[zbD,zbD];congr 2
     unfold colT;simp only;rw[if_neg hyt];simp[sText,sInt]
    have HROW:Hid (∀ (W:World) (q:Nat→Prop),Row W q (strD (colT (y,yt))) [.string ((Y++⟨#[32]⟩)++⟨#[105,110,116]⟩)]):=fun W q=>by rw[HW.out];exact (Row.nil W q).cons (.v _ rfl)
    clear HW;have m1:max (min yt 2) 1=1:=by omega
    have m2:IntKind.i64.wrap ((1:Int)-1)=0:=by rfl
    have m3:IntKind.i64.wrap (0:Int)=0:=by rfl
    go_upto_region 7 with (first|(refine zaF (by rfl) (ty:=92) rfl rfl HC.out uCo_ sCo_ ?_)|(refine St.w_alloc (ty:=92) H.out (by rfl) rfl zCo_ rfl ?_;intro wn Cb _ _ H2;replace H:=hid H2;clear H2)|(refine St.w_store (ty:=92) H.out (by rfl) rfl rfl rfl 0 rfl rfl rfl sCo_ (zad rfl) ?_;intro wn _ _ H2;replace H:=hid H2;clear H2))
    refine zaa 15 (S:=fun W=>W.cell? ⟨Cb,0,none⟩=some (.string Y)∧W.cell? ⟨Cb,1,none⟩=some (.int .i64 yt)) (by kernel_rfl) (by exact ⟨H.out.drew.cellS (i:=0) rfl rfl,H.out.drew.cellS (i:=0) rfl rfl⟩) (fun zJ=>?_);replace H:=hid H.out.drew;refine tKm 0 ?_;refine tKm 1 ?_;refine tKm 2 ?_;refine tKm 3 ?_;refine tKm 5 ?_;refine tKm 6 ?_;refine tKm 7 ?_;refine tKm 8 ?_;refine tKm 9 ?_;refine rK1 4 fun K hK=>?_
    rw[if_pos (by rfl)];refine H.out.o_lit rfl underlying48 iS2_ [.string ⟨#[105,110,116]⟩,.string ⟨#[116,101,120,116]⟩] rfl rfl rfl (by decide) (by decide) (by decide) (all_k rfl) rfl (fun wl Lb _ H2=>?_);refine hK.out _ _ ?_ (fun zH=>?_)
    ·exact ⟨H2.cellS (i:=1) rfl rfl,H2.cellS (i:=1) rfl rfl⟩
    replace zJ:=zH;clear hK K;replace H:=hid H2;clear H2;refine tKm 10 ?_;refine rK1 11 fun K hK=>?_
    rw[if_pos (by rfl)];refine zdF (ty:=9) rfl rfl (H.out.cellS (i:=0) (off:=0) rfl rfl) uStr_ ?_;refine hK.out _ _ ?_ (fun zH=>?_)
    ·exact ⟨H.out.cellS (i:=1) rfl rfl,H.out.cellS (i:=1) rfl rfl⟩
    replace zJ:=zH;clear hK K;refine tKm 12 ?_;refine rK1 13 fun K hK=>?_
    rw[if_pos (by rfl)];refine H.out.o_lit1 rfl underlying48 iS2_ rfl rfl (by decide) (by decide) rfl rfl (fun wl Cl _ H2=>?_);refine hK.out _ _ ?_ (fun zH=>?_)
    ·exact ⟨H2.cellS (i:=2) rfl rfl,H2.cellS (i:=2) rfl rfl⟩
    replace zJ:=zH;clear hK K;replace H:=hid H2;clear H2;refine rK1 14 fun K hK=>?_
    rw[if_pos (by rfl)];refine H.out.o_append (r:=strD (colT (y,yt))) rfl underlying48 iS3_ rfl (by decide) (by decide) 0 rfl rfl rfl rfl rfl 0 rfl rfl (HROW.out _ _) (by rw[HRL.out];exact HKL.out) (fun wl ao9 cap9 _ H2=>?_);refine hK.out _ _ ?_ (fun zH=>?_)
    ·exact ⟨H2.cellS (i:=2) rfl rfl,H2.cellS (i:=2) rfl rfl⟩
    replace zJ:=zH;clear hK K;replace H:=hid H2;clear H2;refine rKl 15 fun K hK=>?_
    go_simp;refine hK.out _ _ ?_;clear hK K;refine rKd ?_;go_wp2_with fail
    have H3:=H.out.drop (L':=[(X,[.int .i64 1,.string N,.slice (some ⟨cb,co,none⟩) L cc,.int .i64 K,.int .i64 A,.int .i64 B,s1,p0,p1,p2,p3,p4,p5,p6,p7,p8,p9,pa,pb,pc,pd,pe,pf,cr,s2])]) (by first|exact (.cons _ (.cons _ (.cons _ (List.Sublist.refl _))))|exact (.cons _ (.cons _ (List.Sublist.refl _))));simp only[List.set_cons_zero]at H3;rw[HRL.out]at H3;have H4:=hid H3;clear H H3;go_roundw
    case rel=>exact ⟨k+1,ao9,cap9,_,by omega,by first|rw[HRL.out]|rw[HMIN.out],by go_num,by show St _ _ _ _ _ _;rw[HTK.out];exact H4.out⟩
    case measure=>simp[intOf];omega
  ·obtain rfl:k=L:=by omega
   have htk:cols.take k=cols:=by rw[← HN.out,List.take_length]
   have hbk:¬ ((k:Int)<(k:Int)):=by omega
   have H3:=H.out.shut;simp only at H3;rw[htk,show cols.map (fun y=>strD (colT y))=(cols.map colT).map strD from by rw[List.map_map];rfl]at H3;replace H:=hid H3;clear htk H3;go_upto_region 9 with (fail)
   refine zaa 11 (S:=fun W=>W.cell? ⟨X,1,none⟩=some (.string N)∧(∀ (j:Nat) (v:Value),([.int .i64 1,.string N,.slice ca k cc,.int .i64 K,.int .i64 A,.int .i64 B,s1,p0,p1,p2,p3,p4,p5,p6,p7,p8,p9,pa,pb,pc,pd,pe,pf,cr,s2]:List Value)[j]?=some v→W.cell? ⟨X,0+j,none⟩=some v)) (by kernel_rfl) (by exact ⟨H.out.drew.cellS (i:=0) rfl rfl,H.out.drew.sub (i:=0) rfl 0 rfl⟩) (fun zJ=>?_);replace H:=hid H.out.drew;refine tKm 0 ?_;refine tKm 1 ?_;refine tKm 2 ?_;refine tkM 6 rfl (by kernel_rfl) zJ (Or.inl ⟨by rfl,fun w hSw=>zbG (ty:=88) (cs:=[.int .i64 1,.string N,.slice ca k cc,.int .i64 K,.int .i64 A,.int .i64 B,s1,p0,p1,p2,p3,p4,p5,p6,p7,p8,p9,pa,pb,pc,pd,pe,pf,cr,s2]) rfl rfl uDf_ sDf_ (hSw.2)⟩) ?_;refine rK1 3 fun K hK=>?_
   go_simp;go_at_call 84
   (with_reducible (refine (HJ.out _ _ _ _ (repOf (H.out.rowAt (j:=0) rfl))).mono ?_))
   rintro e wc ⟨rfl,hb9⟩;have H2:=H.out.below hb9;clear hb9;try dsimp only
   refine hK.out _ _ ?_ (fun zH=>?_)
   ·exact ⟨H2.cellS (i:=0) rfl rfl,H2.sub (i:=0) rfl 0 rfl⟩
   replace zJ:=zH;clear hK K;replace H:=hid H2;clear H2;refine tKm 4 ?_;refine tKm 5 ?_;refine rK1 7 fun K hK=>?_
   go_simp;go_at_call 100
   (with_reducible (refine (HPT.out _ (zac H.out)).mono ?_))
   rintro e wc ⟨rfl,hb9⟩;have H2:=H.out.below hb9;clear hb9;try dsimp only
   refine hK.out _ _ ?_ (fun zH=>?_)
   ·exact ⟨H2.cellS (i:=0) rfl rfl,H2.sub (i:=0) rfl 0 rfl⟩
   replace zJ:=zH;clear hK K;replace H:=hid H2;clear H2;refine rK1 8 fun K hK=>?_
   rw[if_pos (by rfl)];refine H.out.o_lit rfl underlying48 iS2_ [.string ⟨#[115,111,117,114,99,101]⟩,.string N,.string ((⟨#[40]⟩++J)++⟨#[41]⟩),.string PT] rfl rfl rfl (by decide) (by decide) (by decide) (all_k rfl) rfl (fun wl Cl _ H2=>?_);refine hK.out _ _ ?_ (fun zH=>?_)
   ·exact ⟨H2.cellS (i:=1) rfl rfl,H2.sub (i:=1) rfl 0 rfl⟩
   replace zJ:=zH;clear hK K;replace H:=hid H2;clear H2;refine rK1 9 fun K hK=>?_
   go_simp;go_at_call 99
   (with_reducible (refine (HWD.out _ _ (H.out.at (i:=0) rfl)).mono ?_))
   rintro e wc ⟨rfl,hk9⟩;have H2:=H.out.lent hk9;clear hk9;try dsimp only
   refine hK.out _ _ ?_ (fun zH=>?_)
   ·exact ⟨H2.cellS (i:=0) rfl rfl,H2.sub (i:=0) rfl 0 rfl⟩
   replace zJ:=zH;clear hK K;replace H:=hid H2;clear H2;refine tKm 10 ?_;refine rKl 11 fun K hK=>?_
   go_simp;refine hK.out _ _ ?_;clear hK K;refine rKd ?_;go_wp2_with fail
   go_ret
   exact ⟨zcd HRR.out,zac H.out⟩
theorem zs7 (nm:Str) (ins:List Inp) (pt:Str) (K A B:Int) (a0:-9223372036854775808≤A) (a1:A≤9223372036854775807) (b0:-9223372036854775808≤B) (b1:B≤9223372036854775807) (ca:Option Addr) (cc:Nat) (s0 p0 p1 p2 p3 p4 p5 p6 p7 p8 p9 pa pb pc pd pe pf cr s2:Value) (w:World) (hE:EnvX w) (ok:Nat→Prop) (hC:Rep w ok (.sl 4 (ins.map inpD)) (.slice ca ins.length cc)) (hib:∀ x∈ins,-9223372036854775808≤x.n∧x.n≤9223372036854775807) (hcn:ins.length≤600000)
 (hq:∀ W,Below w.heap.size w W→Calls Tryz.prog 72 #[.agg #[p0,p1,p2,p3,p4,p5,p6,p7,p8,p9,pa,pb,pc,pd,pe,pf]] W (StrTo pt W)) (hlen:(zaC [zbl,nm,scT ⟨K,A,B⟩,sFrom,joinS [44,32] (ins.map inT),sDo,pt]).length≤100000000) :
 Calls Tryz.prog 74 #[.agg #[.int .i64 2,.string ⟨nm.toArray⟩,s0,.int .i64 K,.int .i64 A,.int .i64 B,.slice ca ins.length cc,p0,p1,p2,p3,p4,p5,p6,p7,p8,p9,pa,pb,pc,pd,pe,pf,cr,s2]] w (StrTo (zaC [zbl,nm,scT ⟨K,A,B⟩,sFrom,joinS [44,32] (ins.map inT),sDo,pt]++[59,10]) w):=by
 have H:=hid (St.start (S:=fun _=>False) w);obtain ⟨N,hN⟩:∃ T:ByteArray,(⟨(nm).toArray⟩:ByteArray)=T:=⟨_,rfl⟩;obtain ⟨PT,hPT⟩:∃ T:ByteArray,(⟨(scT ⟨K,A,B⟩).toArray⟩:ByteArray)=T:=⟨_,rfl⟩;obtain ⟨L,hL⟩:∃ n,ins.length=n:=⟨_,rfl⟩;rw[hL]at hC ⊢;rw[hN];have HPT:Hid (∀ W,Below w.heap.size w W→Calls Tryz.prog 100 #[.agg #[.int .i64 2,.string N,s0,.int .i64 K,.int .i64 A,.int .i64 B,.slice ca L cc,p0,p1,p2,p3,p4,p5,p6,p7,p8,p9,pa,pb,pc,pd,pe,pf,cr,s2]] W (fun e w'=>e=.returned (.string PT)∧Below W.heap.size W w')):=fun W hW=>by
  have:=zgP K A B a0 a1 b0 b1 (.int .i64 2) (.string N) (s0) (.slice ca L cc) (p0) (p1) (p2) (p3) (p4) (p5) (p6) (p7) (p8) (p9) (pa) (pb) (pc) (pd) (pe) (pf) (cr) (s2) W (hE.below hW);unfold StrTo at this;rw[hPT]at this;exact this
 obtain ⟨J,hJ⟩:∃ T:ByteArray,(⟨(joinS [44,32] (ins.map inT)).toArray⟩:ByteArray)=T:=⟨_,rfl⟩;obtain ⟨Q,hQ⟩:∃ T:ByteArray,(⟨(pt).toArray⟩:ByteArray)=T:=⟨_,rfl⟩;have hl2:=yH (zfU (l:=[zbl,nm,scT ⟨K,A,B⟩,sFrom,joinS [44,32] (ins.map inT),sDo,pt]) (a:=joinS [44,32] (ins.map inT)) (by simp)) hlen;have hcnt:L≤600000:=by rw[← hL];exact hcn
 have HQ:Hid (∀ W,Below w.heap.size w W→Calls Tryz.prog 72 #[.agg #[p0,p1,p2,p3,p4,p5,p6,p7,p8,p9,pa,pb,pc,pd,pe,pf]] W (fun e w'=>e=.returned (.string Q)∧Below W.heap.size W w')):=fun W hW=>by
  have:=hq W hW;unfold StrTo at this;rw[hQ]at this;exact this
 obtain ⟨R,hR⟩:∃ R:ByteArray,(⟨(zaC [zbl,nm,scT ⟨K,A,B⟩,sFrom,joinS [44,32] (ins.map inT),sDo,pt]).toArray⟩:ByteArray)=R:=⟨_,rfl⟩;have hRs:R.size≤100000000:=by rw[← hR,sz_mk];exact hlen
 have HWD:Hid (∀ W g,Box W g [.string ⟨#[97,115,115,101,116]⟩,.string N,.string PT,.string ⟨#[102,114,111,109]⟩,.string J,.string ⟨#[100,111]⟩,.string Q]→Calls Tryz.prog 99 #[.slice (some ⟨g,0,none⟩) 7 7] W (fun e w'=>e=.returned (.string R)∧Kept (fun b=>b=g) W w')):=fun W g hb=>by
  have:=zdo [zbl,nm,scT ⟨K,A,B⟩,sFrom,joinS [44,32] (ins.map inT),sDo,pt] g W (by show Box W g [strV (zbl),strV (nm),strV (scT ⟨K,A,B⟩),strV (sFrom),strV (joinS [44,32] (ins.map inT)),strV (sDo),strV (pt)];unfold strV;rw[hN,hPT,hJ,hQ];exact hb) (by show 7≤1000000;decide) (by omega);unfold zex at this;rw[hR]at this;exact this
 have HRR:Hid (R++⟨#[59,10]⟩=⟨(zaC [zbl,nm,scT ⟨K,A,B⟩,sFrom,joinS [44,32] (ins.map inT),sDo,pt]++[59,10]).toArray⟩):=by
  show _=_
  rw[← hR];show (⟨(zaC [zbl,nm,scT ⟨K,A,B⟩,sFrom,joinS [44,32] (ins.map inT),sDo,pt]).toArray⟩:ByteArray)++⟨([59,10]:Str).toArray⟩=_
  rw[zbD]
 have hzR:¬ 9223372036854775807<R.size+2:=by omega
 have HJ:Hid (∀ W (q:Nat→Prop) ao cp,Rep W q (.sl 1 ((ins.map inT).map strD)) (.slice ao L cp)→Calls Tryz.prog 84 #[.slice ao L cp,.string ⟨#[44,32]⟩] W (fun e w'=>e=.returned (.string J)∧Below W.heap.size W w')):=fun W q ao cp hR=>by
  have hlm:(ins.map inT).length=L:=by rw[yC,hL]
  have:=zeO [44,32] zgn (ins.map inT) ao cp W q (by rw[hlm];exact hR) (by omega) (by omega);unfold StrTo at this;rw[hJ,hlm]at this;exact this
 have HIT:Hid (∀ y∈ins,(inT y).length≤100000000∧-9223372036854775808≤y.n∧y.n≤9223372036854775807):=fun y hy=>⟨yH (zeQ (l:=ins.map inT) _ (List.mem_map.2 ⟨y,hy,rfl⟩)) hl2,hib y hy⟩
 have HEX:Hid (∀ W,Below w.heap.size w W→EnvX W):=fun W hW=>hE.below hW
 have HR:=hid hC;have HN:=hid hL;clear hE a0 a1 b0 b1 hC hcn hlen hL hl2 hR hPT hN hJ hQ hq hib;go_enter func74,ntmps74
 go_wp2_with (first|(refine St.w_box (vs:=[.int .i64 2,.string N,s0,.int .i64 K,.int .i64 A,.int .i64 B,.slice ca L cc,p0,p1,p2,p3,p4,p5,p6,p7,p8,p9,pa,pb,pc,pd,pe,pf,cr,s2]) H.out (by rfl) rfl rfl rfl ?_;intro wn X _ _ H2;replace H:=hid H2;clear H2)|(refine St.w_load1 (ty:=3) H.out (by rfl) rfl rfl 0 rfl rfl uInt_ ?_)|(refine St.w_load1 (ty:=86) H.out (by rfl) rfl rfl 0 rfl rfl uSIn_ ?_))
 replace H:=hid (H.out.gather 9 1);go_loopw [6,52] (fun v i wr=>∃ (k:Nat) (ao:Option Addr) (cp:Nat) (cells:List (List Value)),k≤L∧v=.slice ao k cp∧i=.int .i64 k∧Hid (St (fun _=>False) w wr [(X,[.int .i64 2,.string N,s0,.int .i64 K,.int .i64 A,.int .i64 B,.slice ca L cc,p0,p1,p2,p3,p4,p5,p6,p7,p8,p9,pa,pb,pc,pd,pe,pf,cr,s2])] [] [⟨9,1,.slice ao k cp,(ins.take k).map (fun y=>strD (inT y)),cells⟩])) (fun _ i _=>L-(intOf i).toNat)
 case atStart=>exact ⟨0,none,0,[],yS _,rfl,rfl,H⟩
 case round =>
  clear H;obtain ⟨k,ao,cp,cells,hk,rfl,rfl,H⟩:=hrel;have hw1:=zac H.out;have HRL:Hid (((ins.take k).map (fun y=>strD (inT y))).length=k):=by show _=_;rw[yC,List.length_take,HN.out];omega
  have HMIN:Hid (min k ins.length=k):=by show _=_;rw[HN.out];omega
  by_cases hlt:k<L
  ·obtain ⟨⟨ya,yk,yn,ys⟩,hy⟩:∃ y,ins[k]?=some y:=⟨_,yF (by rw[HN.out];exact hlt)⟩;obtain ⟨cb,co,rfl,hcc⟩:=HR.out.cells_at (i:=k) (r:=inpD ⟨ya,yk,yn,ys⟩) (vs:=[.string ⟨ya.toArray⟩,.int .i64 yk,.int .i64 yn,.string ⟨ys.toArray⟩]) (by rw[yQ,hy];rfl) rfl;obtain ⟨hy1,hy2,hy3⟩:=HIT.out _ (yP hy);have HTK:=hid (zbF (fun y=>strD (inT y)) hy);obtain ⟨U,hU⟩:∃ J:ByteArray,(⟨ya.toArray⟩:ByteArray)=J:=⟨_,rfl⟩;obtain ⟨V,hV⟩:∃ J:ByteArray,(⟨ys.toArray⟩:ByteArray)=J:=⟨_,rfl⟩;obtain ⟨Y,hY⟩:∃ J:ByteArray,(⟨(inT ⟨ya,yk,yn,ys⟩).toArray⟩:ByteArray)=J:=⟨_,rfl⟩;rw[hU,hV]at hcc;have HC:Hid (∀ (j:Nat) (v:Value),([.string U,.int .i64 yk,.int .i64 yn,.string V]:List Value)[j]?=some v→wr.cell? ⟨cb,co+k*4+j,none⟩=some v):=fun j v hv=>by have:=hcc wr hw1 j v hv;rw[← Nat.add_assoc]at this;exact this
   have HIN:Hid (∀ W,Below w.heap.size w W→Calls Tryz.prog 101 #[.agg #[.string U,.int .i64 yk,.int .i64 yn,.string V]] W (fun e w'=>e=.returned (.string Y)∧Below W.heap.size W w')):=fun W hW=>by
    have:=znS ya ys yk yn hy2 hy3 W (HEX.out W hW) hy1;unfold StrTo at this;rw[hU,hV,hY]at this;exact this
   have HROW:Hid (∀ (W:World) (q:Nat→Prop),Row W q (strD (inT ⟨ya,yk,yn,ys⟩)) [.string Y]):=fun W q=>by rw[← hY];exact (Row.nil W q).cons (.v _ rfl)
   have hkn:k+1≤1000000:=by omega
   have HKL:=hid hkn;have hbk:(k:Int)<(L:Int):=by omega
   clear hcc hkn hy hY hy1 hy2 hy3 hU hV
   go_wp2_with (first|(refine zaF (by rfl) (ty:=102) rfl rfl HC.out uIn_ sIn_ ?_)|(refine St.w_alloc (ty:=102) H.out (by rfl) rfl zIn_ rfl ?_;intro wn Cb _ _ H2;replace H:=hid H2;clear H2)|(refine St.w_store (ty:=102) H.out (by rfl) rfl rfl rfl 0 rfl rfl rfl sIn_ (zad rfl) ?_;intro wn _ _ H2;replace H:=hid H2;clear H2)|(refine St.w_load (ty:=102) H.out (by rfl) rfl rfl 0 rfl uIn_ sIn_ ?_)|(go_at_call 101;(with_reducible (refine (HIN.out _ (zac H.out)).mono ?_));rintro e wc ⟨rfl,hb9⟩;replace H:=hid (H.out.below hb9);clear hb9)|(refine St.w_lit1 H.out (by rfl) rfl underlying48 iS2_ rfl rfl (by decide) (by decide) rfl rfl ?_;intro wl Cl H2;replace H:=hid H2;clear H2)|(refine St.w_append (r:=strD (inT ⟨ya,yk,yn,ys⟩)) H.out (by rfl) rfl underlying48 iS3_ rfl (by decide) (by decide) 0 rfl rfl rfl rfl rfl 0 rfl rfl (HROW.out _ _) (by rw[HRL.out];exact HKL.out) ?_;intro wl ao9 cap9 _ H2;replace H:=hid H2;clear H2))
   have H3:=H.out.drop (L':=[(X,[.int .i64 2,.string N,s0,.int .i64 K,.int .i64 A,.int .i64 B,.slice (some ⟨cb,co,none⟩) L cc,p0,p1,p2,p3,p4,p5,p6,p7,p8,p9,pa,pb,pc,pd,pe,pf,cr,s2])]) (.cons _ (.cons _ (List.Sublist.refl _)));rw[HRL.out]at H3;have H4:=hid H3;clear H H3;go_roundw
   case rel=>exact ⟨k+1,ao9,cap9,_,by omega,by first|rw[HRL.out]|rw[HMIN.out],by go_num,by show St _ _ _ _ _ _;rw[HTK.out];exact H4.out⟩
   case measure=>simp[intOf];omega
  ·obtain rfl:k=L:=by omega
   have htk:ins.take k=ins:=by rw[← HN.out,List.take_length]
   have hbk:¬ ((k:Int)<(k:Int)):=by omega
   have H3:=H.out.shut;simp only at H3;rw[htk,show ins.map (fun y=>strD (inT y))=(ins.map inT).map strD from by rw[List.map_map];rfl]at H3;replace H:=hid H3;clear htk H3;go_upto_region 17 with (fail)
   refine zaa 12 (S:=fun W=>W.cell? ⟨X,1,none⟩=some (.string N)∧(∀ (j:Nat) (v:Value),([.int .i64 2,.string N,s0,.int .i64 K,.int .i64 A,.int .i64 B,.slice ca k cc,p0,p1,p2,p3,p4,p5,p6,p7,p8,p9,pa,pb,pc,pd,pe,pf,cr,s2]:List Value)[j]?=some v→W.cell? ⟨X,0+j,none⟩=some v)∧(∀ (j:Nat) (v:Value),([p0,p1,p2,p3,p4,p5,p6,p7,p8,p9,pa,pb,pc,pd,pe,pf]:List Value)[j]?=some v→W.cell? ⟨X,7+j,none⟩=some v)) (by kernel_rfl) (by exact ⟨H.out.drew.cellS (i:=0) rfl rfl,H.out.drew.sub (i:=0) rfl 0 rfl,H.out.drew.sub (i:=0) rfl 7 rfl⟩) (fun zJ=>?_);replace H:=hid H.out.drew;refine tKm 0 ?_;refine tKm 1 ?_;refine tkM 2 rfl (by kernel_rfl) zJ (Or.inl ⟨by rfl,fun w hSw=>zbG (ty:=88) (cs:=[.int .i64 2,.string N,s0,.int .i64 K,.int .i64 A,.int .i64 B,.slice ca k cc,p0,p1,p2,p3,p4,p5,p6,p7,p8,p9,pa,pb,pc,pd,pe,pf,cr,s2]) rfl rfl uDf_ sDf_ (hSw.2.1)⟩) ?_
   refine tKm 4 ?_;refine tKm 6 ?_;refine tkM 7 rfl (by kernel_rfl) zJ (Or.inl ⟨by rfl,fun w hSw=>zbG (ty:=57) (cs:=[p0,p1,p2,p3,p4,p5,p6,p7,p8,p9,pa,pb,pc,pd,pe,pf]) rfl rfl uPl_ sPl_ (hSw.2.2)⟩) ?_;refine rK1 3 fun K hK=>?_
   go_simp;go_at_call 100
   (with_reducible (refine (HPT.out _ (zac H.out)).mono ?_))
   rintro e wc ⟨rfl,hb9⟩;have H2:=H.out.below hb9;clear hb9;try dsimp only
   refine hK.out _ _ ?_ (fun zH=>?_)
   ·exact ⟨H2.cellS (i:=0) rfl rfl,H2.sub (i:=0) rfl 0 rfl,H2.sub (i:=0) rfl 7 rfl⟩
   replace zJ:=zH;clear hK K;replace H:=hid H2;clear H2;refine rK1 5 fun K hK=>?_
   go_simp;go_at_call 84
   (with_reducible (refine (HJ.out _ _ _ _ (repOf (H.out.rowAt (j:=0) rfl))).mono ?_))
   rintro e wc ⟨rfl,hb9⟩;have H2:=H.out.below hb9;clear hb9;try dsimp only
   refine hK.out _ _ ?_ (fun zH=>?_)
   ·exact ⟨H2.cellS (i:=0) rfl rfl,H2.sub (i:=0) rfl 0 rfl,H2.sub (i:=0) rfl 7 rfl⟩
   replace zJ:=zH;clear hK K;replace H:=hid H2;clear H2;refine rK1 8 fun K hK=>?_
   go_simp;go_at_call 72
   (with_reducible (refine (HQ.out _ (zac H.out)).mono ?_))
   rintro e wc ⟨rfl,hb9⟩;have H2:=H.out.below hb9;clear hb9;try dsimp only
   refine hK.out _ _ ?_ (fun zH=>?_)
   ·exact ⟨H2.cellS (i:=0) rfl rfl,H2.sub (i:=0) rfl 0 rfl,H2.sub (i:=0) rfl 7 rfl⟩
   replace zJ:=zH;clear hK K;replace H:=hid H2;clear H2;refine rK1 9 fun K hK=>?_
   rw[if_pos (by rfl)];refine H.out.o_lit rfl underlying48 iS2_ [.string ⟨#[97,115,115,101,116]⟩,.string N,.string PT,.string ⟨#[102,114,111,109]⟩,.string J,.string ⟨#[100,111]⟩,.string Q] rfl rfl rfl (by decide) (by decide) (by decide) (all_k rfl) rfl (fun wl Cl _ H2=>?_);refine hK.out _ _ ?_ (fun zH=>?_)
   ·exact ⟨H2.cellS (i:=1) rfl rfl,H2.sub (i:=1) rfl 0 rfl,H2.sub (i:=1) rfl 7 rfl⟩
   replace zJ:=zH;clear hK K;replace H:=hid H2;clear H2;refine rK1 10 fun K hK=>?_
   go_simp;go_at_call 99
   (with_reducible (refine (HWD.out _ _ (H.out.at (i:=0) rfl)).mono ?_))
   rintro e wc ⟨rfl,hk9⟩;have H2:=H.out.lent hk9;clear hk9;try dsimp only
   refine hK.out _ _ ?_ (fun zH=>?_)
   ·exact ⟨H2.cellS (i:=0) rfl rfl,H2.sub (i:=0) rfl 0 rfl,H2.sub (i:=0) rfl 7 rfl⟩
   replace zJ:=zH;clear hK K;replace H:=hid H2;clear H2;refine tKm 11 ?_;refine rKl 12 fun K hK=>?_
   go_simp;refine hK.out _ _ ?_;clear hK K;refine rKd ?_;go_wp2_with fail
   go_ret
   exact ⟨zcd HRR.out,zac H.out⟩
theorem zs6 (kd:Int) (k1:(kd == 1)=false) (k2:(kd == 2)=false) (nm:Str) (cron:ByteArray) (hcr:cron.size≤9223372036854775807) (mks:List Str) (K A B:Int) (ca:Option Addr) (cc:Nat) (s0 s1 p0 p1 p2 p3 p4 p5 p6 p7 p8 p9 pa pb pc pd pe pf:Value) (w:World) (hE:EnvX w) (ok:Nat→Prop) (hC:Rep w ok (.sl 1 (mks.map strD)) (.slice ca mks.length cc)) (hcn:mks.length≤600000) (hlen:(zaC [zaG,nm,Va.showL 2 0 cron,za1,joinS [44,32] mks]).length≤100000000) :
 Calls Tryz.prog 74 #[.agg #[.int .i64 kd,.string ⟨nm.toArray⟩,s0,.int .i64 K,.int .i64 A,.int .i64 B,s1,p0,p1,p2,p3,p4,p5,p6,p7,p8,p9,pa,pb,pc,pd,pe,pf,.string cron,.slice ca mks.length cc]] w (StrTo (zaC [zaG,nm,Va.showL 2 0 cron,za1,joinS [44,32] mks]++[59,10]) w):=by
 have H:=hid (St.start (S:=fun _=>False) w);obtain ⟨N,hN⟩:∃ T:ByteArray,(⟨(nm).toArray⟩:ByteArray)=T:=⟨_,rfl⟩;obtain ⟨J,hJ⟩:∃ T:ByteArray,(⟨(joinS [44,32] mks).toArray⟩:ByteArray)=T:=⟨_,rfl⟩;obtain ⟨V,hV⟩:∃ T:ByteArray,(⟨(Va.showL 2 0 cron).toArray⟩:ByteArray)=T:=⟨_,rfl⟩;have hl2:=yH (zfU (l:=[zaG,nm,Va.showL 2 0 cron,za1,joinS [44,32] mks]) (a:=joinS [44,32] mks) (by simp)) hlen;have HJ:Hid (∀ W,Below w.heap.size w W→Calls Tryz.prog 84 #[.slice ca mks.length cc,.string ⟨#[44,32]⟩] W (fun e w'=>e=.returned (.string J)∧Below W.heap.size W w')):=fun W hW=>by
  have:=zeO [44,32] zgn mks ca cc W ok (hC.kept (S:=fun _=>False) (Kept.of_below hW) (fun _ _ _ x=>x)) (by omega) (by omega);unfold StrTo at this;rw[hJ]at this;exact this
 have HTX:Hid (∀ W,Calls Tryz.prog 37 #[.string cron] W fun e w'=>e=.returned (.agg #[.int .i64 2,.int .i64 0,.string cron])∧Below W.heap.size W w'):=fun W=>Va.text_any cron W
 have HSH:Hid (∀ W,Below w.heap.size w W→Calls Tryz.prog 39 #[.agg #[.int .i64 2,.int .i64 0,.string cron]] W fun e w'=>e=.returned (.string V)∧Below W.heap.size W w'):=fun W hW=>by
  have:=Va.show_any 2 0 cron W hcr (by decide) (by decide) (hE.below hW).l.pow;rw[hV]at this;exact this
 obtain ⟨R,hR⟩:∃ R:ByteArray,(⟨(zaC [zaG,nm,Va.showL 2 0 cron,za1,joinS [44,32] mks]).toArray⟩:ByteArray)=R:=⟨_,rfl⟩;have hRs:R.size≤100000000:=by rw[← hR,sz_mk];exact hlen
 have HWD:Hid (∀ W g,Box W g [.string ⟨#[115,99,104,101,100,117,108,101]⟩,.string N,.string V,.string ⟨#[109,97,107,101,115]⟩,.string J]→Calls Tryz.prog 99 #[.slice (some ⟨g,0,none⟩) 5 5] W (fun e w'=>e=.returned (.string R)∧Kept (fun b=>b=g) W w')):=fun W g hb=>by
  have:=zdo [zaG,nm,Va.showL 2 0 cron,za1,joinS [44,32] mks] g W (by show Box W g [strV (zaG),strV (nm),strV (Va.showL 2 0 cron),strV (za1),strV (joinS [44,32] mks)];unfold strV;rw[hN,hV,hJ];exact hb) (by show 5≤1000000;decide) (by omega);unfold zex at this;rw[hR]at this;exact this
 have HRR:Hid (R++⟨#[59,10]⟩=⟨(zaC [zaG,nm,Va.showL 2 0 cron,za1,joinS [44,32] mks]++[59,10]).toArray⟩):=by
  show _=_
  rw[← hR];show (⟨(zaC [zaG,nm,Va.showL 2 0 cron,za1,joinS [44,32] mks]).toArray⟩:ByteArray)++⟨([59,10]:Str).toArray⟩=_
  rw[zbD]
 have hzR:¬ 9223372036854775807<R.size+2:=by omega
 obtain ⟨L,hL⟩:∃ n,mks.length=n:=⟨_,rfl⟩;rw[hN];rw[hL]at HJ ⊢;clear hE hC hcn hcr hlen hL hl2 hR hN hJ hV;go_enter func74,ntmps74
 go_upto_region 18 with (first|(refine St.w_box (vs:=[.int .i64 kd,.string N,s0,.int .i64 K,.int .i64 A,.int .i64 B,s1,p0,p1,p2,p3,p4,p5,p6,p7,p8,p9,pa,pb,pc,pd,pe,pf,.string cron,.slice ca L cc]) H.out (by rfl) rfl rfl rfl ?_;intro wn X _ _ H2;replace H:=hid H2;clear H2)|(refine St.w_load1 (ty:=3) H.out (by rfl) rfl rfl 0 rfl rfl uInt_ ?_))
 refine zaa 12 (S:=fun W=>W.cell? ⟨X,1,none⟩=some (.string N)∧W.cell? ⟨X,23,none⟩=some (.string cron)∧W.cell? ⟨X,24,none⟩=some (.slice ca L cc)) (by kernel_rfl) (by exact ⟨H.out.drew.cellS (i:=0) rfl rfl,H.out.drew.cellS (i:=0) rfl rfl,H.out.drew.cellS (i:=0) rfl rfl⟩) (fun zJ=>?_);replace H:=hid H.out.drew;refine tKm 0 ?_;refine tKm 1 ?_;refine tKm 2 ?_;refine tKm 3 ?_;refine tKm 6 ?_;refine tKm 7 ?_;refine rK1 4 fun K hK=>?_
 go_simp;go_at_call 37
 (with_reducible (refine (HTX.out _).mono ?_))
 rintro e wc ⟨rfl,hb9⟩;have H2:=H.out.below hb9;clear hb9;try dsimp only
 refine hK.out _ _ ?_ (fun zH=>?_)
 ·exact ⟨H2.cellS (i:=0) rfl rfl,H2.cellS (i:=0) rfl rfl,H2.cellS (i:=0) rfl rfl⟩
 replace zJ:=zH;clear hK K;replace H:=hid H2;clear H2;refine rK1 5 fun K hK=>?_
 go_simp;go_at_call 39
 (with_reducible (refine (HSH.out _ (zac H.out)).mono ?_))
 rintro e wc ⟨rfl,hb9⟩;have H2:=H.out.below hb9;clear hb9;try dsimp only
 refine hK.out _ _ ?_ (fun zH=>?_)
 ·exact ⟨H2.cellS (i:=0) rfl rfl,H2.cellS (i:=0) rfl rfl,H2.cellS (i:=0) rfl rfl⟩
 replace zJ:=zH;clear hK K;replace H:=hid H2;clear H2;refine rK1 8 fun K hK=>?_
 go_simp;go_at_call 84
 (with_reducible (refine (HJ.out _ (zac H.out)).mono ?_))
 rintro e wc ⟨rfl,hb9⟩;have H2:=H.out.below hb9;clear hb9;try dsimp only
 refine hK.out _ _ ?_ (fun zH=>?_)
 ·exact ⟨H2.cellS (i:=0) rfl rfl,H2.cellS (i:=0) rfl rfl,H2.cellS (i:=0) rfl rfl⟩
 replace zJ:=zH;clear hK K;replace H:=hid H2;clear H2;refine rK1 9 fun K hK=>?_
 rw[if_pos (by rfl)];refine H.out.o_lit rfl underlying48 iS2_ [.string ⟨#[115,99,104,101,100,117,108,101]⟩,.string N,.string V,.string ⟨#[109,97,107,101,115]⟩,.string J] rfl rfl rfl (by decide) (by decide) (by decide) (all_k rfl) rfl (fun wl Cl _ H2=>?_);refine hK.out _ _ ?_ (fun zH=>?_)
 ·exact ⟨H2.cellS (i:=1) rfl rfl,H2.cellS (i:=1) rfl rfl,H2.cellS (i:=1) rfl rfl⟩
 replace zJ:=zH;clear hK K;replace H:=hid H2;clear H2;refine rK1 10 fun K hK=>?_
 go_simp;go_at_call 99
 (with_reducible (refine (HWD.out _ _ (H.out.at (i:=0) rfl)).mono ?_))
 rintro e wc ⟨rfl,hk9⟩;have H2:=H.out.lent hk9;clear hk9;try dsimp only
 refine hK.out _ _ ?_ (fun zH=>?_)
 ·exact ⟨H2.cellS (i:=0) rfl rfl,H2.cellS (i:=0) rfl rfl,H2.cellS (i:=0) rfl rfl⟩
 replace zJ:=zH;clear hK K;replace H:=hid H2;clear H2;refine tKm 11 ?_;refine rKl 12 fun K hK=>?_
 go_simp;refine hK.out _ _ ?_;clear hK K;refine rKd ?_;go_wp2_with fail
 go_ret
 exact ⟨zcd HRR.out,zac H.out⟩
