/- Walks: the law on the texts of definitions. -/
import Derived.Test.YtonkjhmkppeagaaGreatDoorVShI
import Derived.Test.YtonkjhmkppeagaaGreatDoorVShW
import Derived.Test.YtonkjhmkppeagaaGreatDoorVDf
set_option linter.unusedVariables false
set_option linter.unusedSimpArgs false
namespace Go.Proofs.YtonkjhmkppeagaaGreatDoor.Pz
open Go.Proofs.Tryz
open Go.Lib (hid)
open Go.RowKit Go Go.Sort Ba Lx
theorem zir (d:Df):defsT [d]=dfT d:=by unfold defsT;simp
theorem zit:∀ (ds:List Df),ds.length≤(defsT ds).length
 | []=>Nat.zero_le _
 | d::r=>by
  have ih:=zit r;show r.length+1≤((dfT0 d++[59,10])++defsT r).length
  rw[List.length_append,List.length_append];show _≤_+2+_
  omega
theorem zis {ds:List Df} {d:Df} (h:d∈ds):(dfT d).length≤(defsT ds).length:=by
 induction ds with
 | nil=>cases h
 | cons x r ih =>
  show _≤(dfT x++defsT r).length
  rw[List.length_append];rcases List.mem_cons.1 h with rfl|h
  ·omega
  ·have:=ih h;omega
set_option maxRecDepth 100000 in
set_option maxHeartbeats 6400000 in
theorem showTexts_law (s:ByteArray) (w:World) (hE:EnvX w):Calls Tryz.prog 12 #[.string s] w fun e w'=>e=.returned (.bool true)∧Below w.heap.size w w':=by
 have HAW:Hid (∀ W,Below w.heap.size w W→Calls Tryz.prog 14 #[] W fun e w'=>e=.returned (.bool true)∧Below W.heap.size W w'):=fun W hW=>znL W (hE.below hW)
 have HE:=hid (fun W (hW:Below w.heap.size w W)=>hE.below hW);obtain ⟨l,rfl⟩:∃ l:Str,s=⟨l.toArray⟩:=⟨s.data.toList,by rw[Array.toArray_toList]⟩;have HB:Hid (Below w.heap.size w w):=Below.refl _ _;have hsz:(⟨l.toArray⟩:ByteArray).size=l.length:=sz_mk l;by_cases hl:l.length≤2000
 ·obtain ⟨⟨ds,ra,re⟩,hr⟩:∃ r,za9 l=r:=⟨_,rfl⟩;have HP:Hid (∀ W,Below w.heap.size w W→Calls Tryz.prog 32 #[.string ⟨l.toArray⟩] W (zfe (ds,ra,re) W)):=fun W hW=>by
   have:=zey ⟨l.toArray⟩ W (hE.below hW).l;rw[show ((⟨l.toArray⟩:ByteArray).data.toList)=l from rfl,hr]at this;exact this
  have hg1:¬ (2000:Int)<(l.length:Int):=by omega
  by_cases hx:re=0
  ·subst hx;obtain ⟨hok,hlen,_⟩:=zkL (l:=l) (by rw[hr]);rw[hr]at hok hlen;simp only at hok hlen;have hL:(defsT ds).length≤8000:=by omega
   have hcnt:=zit ds;have hagain:=ze7 hok (by omega);obtain ⟨n,hn⟩:∃ n,ds.length=n:=⟨_,rfl⟩;have hn8:n≤8000:=by omega
   obtain ⟨T,hT⟩:∃ T:ByteArray,(⟨(defsT ds).toArray⟩:ByteArray)=T:=⟨_,rfl⟩;have HSH:Hid (∀ W ao cp (o:Nat→Prop),Below w.heap.size w W→Rep W o (.sl 25 (ds.map dfD)) (.slice ao n cp)→Calls Tryz.prog 41 #[.slice ao n cp] W (fun e w'=>e=.returned (.tuple #[.string T,.int .i64 0])∧Below W.heap.size W w')):=fun W ao cp o hW hR=>by
    have:=show_any ds dfT (defsT ds) rfl true ⟨fun _=>by rw[hagain];exact ⟨rfl,rfl⟩,fun _=>rfl⟩ (fun i x y h1 h2=>by
     rw[hagain]at h1;simp only at h1;rw[h1]at h2;obtain rfl:=Option.some.inj h2;exact znr x) (fun d hd cs W ok h1 h2=>zlK (hok d hd) (by have:=zis hd;omega) cs W ok h1 h2) (by omega) ao cp W o (by rw[hn];exact hR) (hE.below hW)
    rw[hn]at this;unfold ShTo at this;rw[hT]at this;exact this
   have HSD:Hid (∀ d∈ds,∀ (cs:List Value) W (o:Nat→Prop),Below w.heap.size w W→Row W o (dfD d) cs→Calls Tryz.prog 42 #[.agg cs.toArray] W (fun e w'=>e=.returned (.tuple #[.string ⟨(dfT d).toArray⟩,.int .i64 0])∧Below W.heap.size W w')):=fun d hd cs W o hW hR=>by
    have hm:=zis hd;have h1:=ze7 (ds:=[d]) (fun x hx=>by rw[List.mem_singleton.1 hx];exact hok d hd) (by rw[zir];omega);rw[zir]at h1;have:=zlF d (dfT d) true ⟨fun _=>by rw[h1];exact ⟨rfl,rfl⟩,fun _=>rfl⟩ (fun x hx=>by rw[h1]at hx;rw[List.mem_singleton.1 hx];exact znr d) cs W o hR (hE.below hW) (fun cs W ok h1 h2=>zlK (hok d hd) (by omega) cs W ok h1 h2) (by omega);exact this
   have HPT:Hid (∀ W,Below w.heap.size w W→Calls Tryz.prog 32 #[.string T] W (zfe (ds,(defsT ds).length,0) W)):=fun W hW=>by
    have:=zey T W (hE.below hW).l;rw[← hT]at this ⊢;rw[show ((⟨(defsT ds).toArray⟩:ByteArray).data.toList)=defsT ds from rfl,hagain]at this;exact this
   have HT:=hid hT;have HN:=hid hn;have HLE:Hid (∀ k,(defsT (ds.take k)).length≤8000):=fun k=>by
    refine Nat.le_trans ?_ hL;unfold defsT;conv=>rhs;rw[← List.take_append_drop k ds,List.map_append,List.flatten_append,List.length_append]
    exact Nat.le_add_right _ _
   clear hE hr hok hlen hagain hL hT hcnt;unfold zfe at HP HPT;simp only[hn]at HP HPT;clear hn;go_enter func12,ntmps12
   go_wp2_with (first|(go_at_call 32;(with_reducible (refine (HP.out _ HB.out).mono ?_));rintro e wz ⟨ao,cp,rfl,hR3,_,hb3⟩;have HB2:=hid (two HB.out hb3);have HR1:=hid hR3;clear hb3 hR3 HB HP;have HB:=HB2;clear HB2)|(go_at_call 41;(with_reducible (refine (HSH.out _ _ _ _ HB.out HR1.out).mono ?_));rintro e wz ⟨rfl,hb9⟩;have HR2:=hid (HR1.out.kept (S:=fun _=>False) (Kept.of_below hb9) (fun _ _ _ x=>x));have HB2:=hid (two HB.out hb9);clear hb9 HB HR1;have HB:=HB2;have HR:=HR2;clear HB2 HR2))
   obtain ⟨B,hB⟩:∃ B,w.heap.size=B:=⟨_,rfl⟩;generalize hwz:(wz)=wq at HB HR ⊢;go_loopw [8,38] (fun v i wr=>∃ (k:Nat),k≤n∧v=.string ⟨(defsT (ds.take k)).toArray⟩∧i=.int .i64 k∧Hid (Below w.heap.size w wr)∧Hid (Rep wr (fun _=>True) (.sl 25 (ds.map dfD)) (.slice ao n cp))) (fun _ i _=>n-(intOf i).toNat)
   case atStart=>exact ⟨0,Nat.zero_le _,rfl,rfl,HB,HR.out.weak fun _ _ _=>trivial⟩
   case round =>
    clear HB HR;obtain ⟨k,hk,rfl,rfl,HW,HR⟩:=hrel;by_cases hlt:k<n
    ·obtain ⟨x,hx⟩:∃ x,ds[k]?=some x:=⟨_,List.getElem?_eq_getElem (by rw[HN.out];exact hlt)⟩;obtain ⟨b1,o1,c1,rfl,hr1,hl1,hc1⟩:=HR.out.cellsR (i:=k) (r:=dfD x) (by rw[List.getElem?_map,hx];rfl);have HC1:Hid (∀ W,Below wr.heap.size wr W→∀ (j:Nat) (v:Value),c1[j]?=some v→W.cell? ⟨b1,o1+k*25+j,none⟩=some v):=fun W hW=>hc1 W hW
     have HS1:Hid ((Tryz.prog.info? 88).map (·.size)=some c1.length):=by show _=_;rw[hl1];exact sDf_
     have HL1:Hid (25=c1.length):=hl1.symm;have HO1:Hid (∀ v∈c1,v.oneCell'=true):=hr1.one;have H:=hid (St.start (S:=fun _=>False) wr);obtain ⟨X,hX⟩:∃ X:ByteArray,(⟨(dfT x).toArray⟩:ByteArray)=X:=⟨_,rfl⟩;obtain ⟨Y,hY⟩:∃ X:ByteArray,(⟨(defsT (ds.take k)).toArray⟩:ByteArray)=X:=⟨_,rfl⟩;have HD1:Hid (∀ W,Below wr.heap.size wr W→Calls Tryz.prog 42 #[.agg c1.toArray] W (fun e w'=>e=.returned (.tuple #[.string X,.int .i64 0])∧Below W.heap.size W w')):=fun W hW=>by
      have:=HSD.out x (List.mem_of_getElem? hx) c1 W _ (two HW.out hW) (hr1.kept (S:=fun _=>False) (Kept.of_below hW) (fun _ _ _ x=>x));rw[hX]at this;exact this
     have HXY:Hid (Y++X=⟨(defsT (ds.take (k+1))).toArray⟩):=by
      show _=_
      rw[← hX,← hY,za4];congr 2
      unfold defsT;rw[zaR dfT hx,List.flatten_append];simp
     have hys:Y.size≤8000:=by rw[← hY,sz_mk];exact HLE.out k
     have hxs:X.size≤8000:=by
      have:=HLE.out (k+1);unfold defsT at this;rw[zaR dfT hx,List.flatten_append,List.length_append]at this;rw[← hX,sz_mk];simp at this
      omega
     have hz:¬ 9223372036854775807<Y.size+X.size:=by omega
     have hkn:(k:Int)<(n:Int):=by omega
     rw[hY];clear hr1 hc1 hl1 hx hX hY;go_wp2_with (first|(refine zar (by rfl) (ty:=88) (cs:=c1) rfl rfl (HC1.out _ (zab H.out)) uDf_ HS1.out ?_)|(refine St.w_alloc (ty:=88) H.out (by rfl) rfl zDf_ rfl ?_;intro wn Cn _ _ H2;replace H:=hid H2;clear H2)|(refine St.w_store (ty:=88) H.out (by rfl) rfl rfl rfl 0 (vs:=c1) rfl rfl HL1.out HS1.out HO1.out ?_;intro wn _ _ H2;replace H:=hid H2;clear H2)|(refine St.w_load (ty:=88) H.out (by rfl) rfl rfl 0 rfl uDf_ HS1.out ?_)|(go_at_call 42;(with_reducible (refine (HD1.out _ (zab H.out)).mono ?_));rintro e wz ⟨rfl,hb9⟩;replace H:=hid (H.out.below hb9);clear hb9))
     have HB2:=hid (zab H.out);go_roundw
     case rel=>exact ⟨k+1,by omega,by rw[HXY.out],by go_num,two HW.out HB2.out,HR.out.kept (S:=fun _=>False) (Kept.of_below HB2.out) (fun _ _ _ x=>x)⟩
     case measure=>simp[intOf];omega
    ·obtain rfl:k=n:=by omega
     have hkn:¬ ((k:Int)<(k:Int)):=by omega
     have htk:ds.take k=ds:=by rw[← HN.out,List.take_length]
     rw[htk,HT.out];have hTT:(T.toList == T.toList)=true:=beq_self_eq_true _;have HB:=HW;clear HW htk HR;go_wp2_with (first|(go_at_call 32;(with_reducible (refine (HPT.out _ HB.out).mono ?_));rintro e wz ⟨ao2,cp2,rfl,hR3,_,hb3⟩;have HB2:=hid (two HB.out hb3);have HR1:=hid hR3;clear hb3 hR3 HB HPT;have HB:=HB2;clear HB2)|(go_at_call 41;(with_reducible (refine (HSH.out _ _ _ _ HB.out HR1.out).mono ?_));rintro e wz ⟨rfl,hb9⟩;have HB2:=hid (two HB.out hb9);clear hb9 HB HR1;have HB:=HB2;clear HB2)|(go_at_call 14;(with_reducible (refine (HAW.out _ HB.out).mono ?_));rintro e wz ⟨rfl,hb9⟩;have HB2:=hid (two HB.out hb9);clear hb9 HB;have HB:=HB2;clear HB2))
     go_ret
     exact ⟨rfl,HB.out⟩
  ·have hx1:(re != 0)=true:=by rw[bne_iff_ne];exact hx
   clear hE hr hx;go_enter func12,ntmps12
   go_wp2_with (first|(go_at_call 32;(with_reducible (refine (HP.out _ HB.out).mono ?_));rintro e wz ⟨ao,cp,rfl,hR3,_,hb3⟩;have HB2:=hid (two HB.out hb3);clear hb3 hR3 HB HP;have HB:=HB2;clear HB2)|(go_at_call 14;(with_reducible (refine (HAW.out _ HB.out).mono ?_));rintro e wz ⟨rfl,hb9⟩;have HB2:=hid (two HB.out hb9);clear hb9 HB;have HB:=HB2;clear HB2))
   go_ret
   exact ⟨rfl,HB.out⟩
 ·have hg1:(2000:Int)<(l.length:Int):=by omega
  clear hE hl;go_enter func12,ntmps12
  go_wp2_with (go_at_call 14;(with_reducible (refine (HAW.out _ HB.out).mono ?_));rintro e wz ⟨rfl,hb9⟩;have HB2:=hid (two HB.out hb9);clear hb9 HB;have HB:=HB2;clear HB2)
  go_ret
  exact ⟨rfl,HB.out⟩
end Go.Proofs.YtonkjhmkppeagaaGreatDoor.Pz
