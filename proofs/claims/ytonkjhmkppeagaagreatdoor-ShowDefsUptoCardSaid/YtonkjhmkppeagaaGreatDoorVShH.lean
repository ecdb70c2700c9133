/- Walks: lists of definitions are compared; show.Show, show.Def. -/
import Derived.Test.YtonkjhmkppeagaaGreatDoorVShG
import Derived.Test.YtonkjhmkppeagaaGreatDoorVBld
set_option maxRecDepth 100000
set_option maxHeartbeats 6400000
set_option linter.unusedVariables false
set_option linter.unusedSimpArgs false
namespace Go.Proofs.YtonkjhmkppeagaaGreatDoor.Pz
open Go.Proofs.Tryz
open Go.Lib (hid)
open Go.RowKit Go Go.Sort Ba Lx
def DqOk (x y:Df):Prop:=∀ (b:Bool),(b=true↔x=y)→∀ (cs ds:List Value) (w:World) (o1 o2:Nat→Prop),Row w o1 (dfD x) cs→Row w o2 (dfD y) ds→Calls Tryz.prog 34 #[.agg cs.toArray,.agg ds.toArray] w (EqTo w b)
theorem zda (p:Prop):∃ q:Bool,q=true↔p:=by
 by_cases h:p
 ·exact ⟨true,fun _=>h,fun _=>rfl⟩
 ·exact ⟨false,fun e=>(by cases e),fun e=>absurd e h⟩
theorem zbB {q:Bool} {p:Prop} (h:q=true↔p) (hp:¬ p):q=false:=by
 cases q with
 | false=>rfl
 | true=>exact absurd (h.1 rfl) hp
theorem zpn {α:Type} {xs ys:List α} (hl:xs.length=ys.length) (h:∀ (k:Nat) (x y:α),xs[k]?=some x→ys[k]?=some y→x=y):xs=ys:=by
 apply List.ext_getElem? fun k=>?_
 rcases Nat.lt_or_ge k xs.length with hk|hk
 ·have e1:=yF hk;have e2:=yF (l:=ys) (i:=k) (by omega);rw[e1,e2,h k _ _ e1 e2]
 ·rw[List.getElem?_eq_none hk,List.getElem?_eq_none (by omega)]
theorem zqj (xs ys:List Df) (q:Bool) (hq:q=true↔xs=ys) (he:∀ (i:Nat) (x y:Df),xs[i]?=some x→ys[i]?=some y→DqOk x y) (sa sb:Option Addr) (ca cb:Nat) (w:World) (o1 o2:Nat→Prop) (hA:Rep w o1 (.sl 25 (xs.map dfD)) (.slice sa xs.length ca)) (hB:Rep w o2 (.sl 25 (ys.map dfD)) (.slice sb ys.length cb)) :
 Calls Tryz.prog 76 #[.slice sa xs.length ca,.slice sb ys.length cb,.func (.func 34) #[] #[]] w (EqTo w q):=by
 have hl:xs.length≤maxLen:=by
  obtain ⟨_,_,_,h1,h2⟩:=hA.len;rw[yC]at h1;exact yH h1 h2
 unfold maxLen at hl;have HA:=hid hA;have HB:=hid hB;have HI:=hid he;have HQ:=hid hq;by_cases hne:xs.length=ys.length
 ·obtain ⟨n,hn⟩:∃ n,xs.length=n:=⟨_,rfl⟩;have hn2:ys.length=n:=by omega
  rw[hn]at HA hl ⊢;rw[hn2]at HB ⊢;have HN:=hid hn;have HN2:=hid hn2;clear hA hB he hne hn hn2 hq;go_enter func76,ntmps76
  go_wp2_with fail
  go_loopw [17] (fun i wr=>∃ k:Nat,k≤n∧i=.int .i64 k∧Hid (Below w.heap.size w wr)∧Hid (∀ (j:Nat) (x y:Df),j<k→xs[j]?=some x→ys[j]?=some y→x=y)) (fun i _=>n-(intOf i).toNat)
  case atStart=>exact ⟨0,yS _,rfl,Below.refl _ _,(fun j x y hj=>by omega:∀ (j:Nat) (x y:Df),j<0→xs[j]?=some x→ys[j]?=some y→x=y)⟩
  case round =>
   obtain ⟨k,hk,rfl,HW,HE⟩:=hrel;by_cases hlt:k<n
   ·obtain ⟨x,hx⟩:∃ x,xs[k]?=some x:=⟨_,yF (by rw[HN.out];exact hlt)⟩;obtain ⟨y,hy⟩:∃ y,ys[k]?=some y:=⟨_,yF (by rw[HN2.out];exact hlt)⟩;obtain ⟨b1,o1,c1,rfl,hr1,hl1,hc1⟩:=HA.out.cellsR (i:=k) (r:=dfD x) (by rw[yQ,hx];rfl);have HC1:Hid (∀ W,Below wr.heap.size wr W→∀ (j:Nat) (v:Value),c1[j]?=some v→W.cell? ⟨b1,o1+k*25+j,none⟩=some v):=fun W hW=>hc1 W (two HW.out hW)
    have HS1:Hid ((Tryz.prog.info? 88).map (·.size)=some c1.length):=by show _=_;rw[hl1];exact sDf_
    have HL1:Hid (25=c1.length):=hl1.symm;have HO1:Hid (∀ v∈c1,v.oneCell'=true):=hr1.one;obtain ⟨b2,o2,c2,rfl,hr2,hl2,hc2⟩:=HB.out.cellsR (i:=k) (r:=dfD y) (by rw[yQ,hy];rfl);have HC2:Hid (∀ W,Below wr.heap.size wr W→∀ (j:Nat) (v:Value),c2[j]?=some v→W.cell? ⟨b2,o2+k*25+j,none⟩=some v):=fun W hW=>hc2 W (two HW.out hW)
    have HS2:Hid ((Tryz.prog.info? 88).map (·.size)=some c2.length):=by show _=_;rw[hl2];exact sDf_
    have HL2:Hid (25=c2.length):=hl2.symm;have HO2:Hid (∀ v∈c2,v.oneCell'=true):=hr2.one;have H:=hid (St.start (S:=fun _=>False) wr);obtain ⟨q2,hq2⟩:=zda (x=y);have HEQ:Hid (∀ W,Below wr.heap.size wr W→Calls Tryz.prog 34 #[.agg c1.toArray,.agg c2.toArray] W (EqTo W q2)):=fun W hW=>HI.out k x y hx hy q2 hq2 c1 c2 W _ _ (hr1.kept (S:=fun _=>False) (Kept.of_below (two HW.out hW)) (fun _ _ _ x=>x)) (hr2.kept (S:=fun _=>False) (Kept.of_below (two HW.out hW)) (fun _ _ _ x=>x))
    have HX:=hid hx;have HY:=hid hy;have hkn:(k:Int)<(n:Int):=by omega
    clear hr1 hr2 hc1 hc2 hl1 hl2 hx hy
    cases q2 with
    | true =>
     have HXY:Hid (x=y):=hq2.1 rfl;clear hq2
     go_wp2_with (first|(refine zaF (by rfl) (ty:=88) (cs:=c1) rfl rfl (HC1.out _ (zac H.out)) uDf_ HS1.out ?_)|(refine zaF (by rfl) (ty:=88) (cs:=c2) rfl rfl (HC2.out _ (zac H.out)) uDf_ HS2.out ?_)|(refine St.w_alloc (ty:=88) H.out (by rfl) rfl zDf_ rfl ?_;intro wn Cn _ _ H2;replace H:=hid H2;clear H2)|(refine St.w_store (ty:=88) H.out (by rfl) rfl rfl rfl 0 (vs:=c1) rfl rfl HL1.out HS1.out HO1.out ?_;intro wn _ _ H2;replace H:=hid H2;clear H2)|(refine St.w_store (ty:=88) H.out (by rfl) rfl rfl rfl 0 (vs:=c2) rfl rfl HL2.out HS2.out HO2.out ?_;intro wn _ _ H2;replace H:=hid H2;clear H2)|(refine St.w_load (ty:=88) H.out (by rfl) rfl rfl 1 rfl uDf_ HS1.out ?_)|(refine St.w_load (ty:=88) H.out (by rfl) rfl rfl 0 rfl uDf_ HS2.out ?_)|(go_at_call 34;(with_reducible (refine (HEQ.out _ (zac H.out)).mono ?_));rintro e wz ⟨rfl,hb9⟩;replace H:=hid (H.out.below hb9);clear hb9))
     have HB2:=hid (zac H.out);go_roundw
     case rel=>exact ⟨k+1,by omega,by go_num,two HW.out HB2.out,(fun j x' y' hj hx' hy'=>by
      by_cases hjk:j<k
      ·exact HE.out j x' y' hjk hx' hy'
      ·obtain rfl:j=k:=by omega
       rw[HX.out]at hx';rw[HY.out]at hy';obtain rfl:=Option.some.inj hx';obtain rfl:=Option.some.inj hy';exact HXY.out:∀ (j:Nat) (x y:Df),j<k+1→xs[j]?=some x→ys[j]?=some y→x=y)⟩
     case measure=>simp[intOf];omega
    | false =>
     have HF:Hid (q=false):=zbB HQ.out fun h=>by
      have e1:=HX.out;have e2:=HY.out;rw[h]at e1;rw[e1]at e2;exact absurd (hq2.2 (Option.some.inj e2)) (by decide)
     clear hq2
     go_wp2_with (first|(refine zaF (by rfl) (ty:=88) (cs:=c1) rfl rfl (HC1.out _ (zac H.out)) uDf_ HS1.out ?_)|(refine zaF (by rfl) (ty:=88) (cs:=c2) rfl rfl (HC2.out _ (zac H.out)) uDf_ HS2.out ?_)|(refine St.w_alloc (ty:=88) H.out (by rfl) rfl zDf_ rfl ?_;intro wn Cn _ _ H2;replace H:=hid H2;clear H2)|(refine St.w_store (ty:=88) H.out (by rfl) rfl rfl rfl 0 (vs:=c1) rfl rfl HL1.out HS1.out HO1.out ?_;intro wn _ _ H2;replace H:=hid H2;clear H2)|(refine St.w_store (ty:=88) H.out (by rfl) rfl rfl rfl 0 (vs:=c2) rfl rfl HL2.out HS2.out HO2.out ?_;intro wn _ _ H2;replace H:=hid H2;clear H2)|(refine St.w_load (ty:=88) H.out (by rfl) rfl rfl 1 rfl uDf_ HS1.out ?_)|(refine St.w_load (ty:=88) H.out (by rfl) rfl rfl 0 rfl uDf_ HS2.out ?_)|(go_at_call 34;(with_reducible (refine (HEQ.out _ (zac H.out)).mono ?_));rintro e wz ⟨rfl,hb9⟩;replace H:=hid (H.out.below hb9);clear hb9))
     go_ret
     have hf:q=false:=HF.out;subst hf;exact ⟨rfl,two HW.out (zac H.out)⟩
   ·have HF:Hid (q=true):=HQ.out.2 (zpn (by rw[HN.out,HN2.out]) fun j x y hx hy=>HE.out j x y (by
     have:=(yE.1 hx).1;rw[HN.out]at this;omega) hx hy)
    have hkn:¬ (k:Int)<(n:Int):=by omega
    go_wp2_with fail
    go_ret
    have hf:q=true:=HF.out;subst hf;exact ⟨rfl,HW.out⟩
 ·have HF:Hid (q=false):=zbB hq fun h=>hne (by rw[h])
  have hl2:ys.length≤maxLen:=by
   obtain ⟨_,_,_,h1,h2⟩:=hB.len;rw[yC]at h1;exact yH h1 h2
  unfold maxLen at hl2;obtain ⟨n,hn⟩:∃ n,xs.length=n:=⟨_,rfl⟩;obtain ⟨m,hm⟩:∃ n,ys.length=n:=⟨_,rfl⟩;rw[hn,hm]at hne ⊢;have g1:((n:Int) != (m:Int))=true:=by rw[bne_iff_ne];omega
  rw[HF.out];clear HF HA HB HI HQ hA hB he hq hn hm hl hl2;go_enter func76,ntmps76
  go_wp2_with fail
  go_ret
  exact ⟨rfl,Below.refl _ _⟩
theorem zkd {T e:TypeId} {B b:Nat} {bs:List Value} {w w':World} (h:Lib.IsBuilder T e B b bs w) (g:Below w.heap.size w w'):Lib.IsBuilder T e B b bs w':=by
 have one:∀ p,Lib.BuilderAt T e B b p bs w→Lib.BuilderAt T e B b p bs w':=fun p ⟨hB,v,hbk,hown,hne⟩=>by
  have hlt:b<w.heap.size:=by
   rcases Nat.lt_or_ge b w.heap.size with h'|h'
   ·exact h'
   ·simp[Array.getElem?_eq_none h']at hbk
  exact ⟨hB,v,by rw[g.block b hlt];exact hbk,zcH hown fun k hk=>g.block k (hown.lt k hk).2,hne⟩
 rcases h with h|h
 ·exact .inl (one _ h)
 ·exact .inr (one _ h)
def ShTo (q:Bool) (T:ByteArray) (w:World) (e:Ending) (w':World):Prop:=e=.returned (.tuple #[.string (if q then T else ⟨#[]⟩),.int .i64 (if q then 0 else 20)])∧Below w.heap.size w w'
theorem show_any (ds:List Df) (tx:Df→Str) (T:Str) (hT:(ds.map tx).flatten=T) (q:Bool) (hq:q=true↔((zaJ T).2.2=0∧(zaJ T).1=ds)) (he:∀ (i:Nat) (x y:Df),(zaJ T).1[i]?=some x→ds[i]?=some y→DqOk x y)
 (hdef:∀ d∈ds,∀ (cs:List Value) (W:World) (ok:Nat→Prop),Row W ok (dfD d) cs→EnvX W→Calls Tryz.prog 74 #[.agg cs.toArray] W (StrTo (tx d) W)) (hlen:T.length≤100000000)
 (sa:Option Addr) (ca:Nat) (w:World) (ok:Nat→Prop) (hA:Rep w ok (.sl 25 (ds.map dfD)) (.slice sa ds.length ca)) (hE:EnvX w):Calls Tryz.prog 41 #[.slice sa ds.length ca] w (ShTo q ⟨T.toArray⟩ w):=by
 have hl:ds.length≤maxLen:=by
  obtain ⟨_,_,_,h1,h2⟩:=hA.len;rw[yC]at h1;exact yH h1 h2
 unfold maxLen at hl;obtain ⟨⟨rl,ra,re⟩,hr⟩:∃ r,zaJ T=r:=⟨_,rfl⟩;rw[hr]at hq he;have HA:=hid hA;have HPA:Hid (∀ W,Below w.heap.size w W→Calls Tryz.prog 32 #[.string ⟨T.toArray⟩] W (zgB (rl,ra,re) W)):=fun W hW=>by
  have:=zeM ⟨T.toArray⟩ W (hE.below hW).l;rw[show ((⟨T.toArray⟩:ByteArray).data.toList)=T from rfl,hr]at this;exact this
 have HDF:=hid hdef;have HE:=hid (fun W (hW:Below w.heap.size w W)=>hE.below hW);have HI:=hid he;have HQ:=hid hq;have HLT:Hid (∀ k,(((ds.take k).map tx).flatten).length≤100000000):=fun k=>by
  refine yH ?_ hlen;rw[← hT];conv=>rhs;rw[← List.take_append_drop k ds,List.map_append,List.flatten_append,yA]
  exact Nat.le_add_right _ _
 have HT:=hid hT;obtain ⟨n,hn⟩:∃ n,ds.length=n:=⟨_,rfl⟩;rw[hn]at HA hl ⊢;have HN:=hid hn;have HFB:=hid (Lib.fresh_isBuilder 147 5 w);obtain ⟨B,hB⟩:∃ B,w.heap.size=B:=⟨_,rfl⟩;have HBE:=hid hB;obtain ⟨TT,hTT⟩:∃ TT:ByteArray,(⟨T.toArray⟩:ByteArray)=TT:=⟨_,rfl⟩;rw[hTT]at HPA ⊢;have HTT:=hid hTT;clear hA hE hdef he hq hr hT hlen hn hTT;go_enter func41,ntmps41
 go_wp2_with fail
 have HW0:Hid (Below w.heap.size w (w.alloc (.cells #[.pointer none,.slice none 0 0] 147))):=(Below.refl _ w).alloc (yG _) _;generalize (w.alloc (.cells #[.pointer none,.slice none 0 0] 147))=wb at HFB HW0 ⊢;rw[hB]at HFB;clear hB;go_loopw [12] (fun i wr=>∃ k:Nat,k≤n∧i=.int .i64 k∧Hid (Below w.heap.size w wr)∧Hid (Lib.IsBuilder 147 5 B B (Lib.byteCells (((ds.take k).map tx).flatten)) wr)) (fun i _=>n-(intOf i).toNat)
 case atStart=>exact ⟨0,yS _,rfl,HW0,HFB⟩
 case round =>
  clear HFB HW0;obtain ⟨k,hk,rfl,HW,HBU⟩:=hrel;by_cases hlt:k<n
  ·obtain ⟨x,hx⟩:∃ x,ds[k]?=some x:=⟨_,yF (by rw[HN.out];exact hlt)⟩;obtain ⟨b1,o1,c1,rfl,hr1,hl1,hc1⟩:=HA.out.cellsR (i:=k) (r:=dfD x) (by rw[yQ,hx];rfl);have HC1:Hid (∀ W,Below wr.heap.size wr W→∀ (j:Nat) (v:Value),c1[j]?=some v→W.cell? ⟨b1,o1+k*25+j,none⟩=some v):=fun W hW=>hc1 W (two HW.out hW)
   have HS1:Hid ((Tryz.prog.info? 88).map (·.size)=some c1.length):=by show _=_;rw[hl1];exact sDf_
   have HL1:Hid (25=c1.length):=hl1.symm;have HO1:Hid (∀ v∈c1,v.oneCell'=true):=hr1.one;have H:=hid (St.start (S:=fun _=>False) wr);obtain ⟨X,hX⟩:∃ X:ByteArray,(⟨(tx x).toArray⟩:ByteArray)=X:=⟨_,rfl⟩;have HD1:Hid (∀ W,Below wr.heap.size wr W→Calls Tryz.prog 74 #[.agg c1.toArray] W (fun e w'=>e=.returned (.string X)∧Below W.heap.size W w')):=fun W hW=>by
    have:=HDF.out x (yP hx) c1 W _ (hr1.kept (S:=fun _=>False) (Kept.of_below (two HW.out hW)) (fun _ _ _ x=>x)) (HE.out W (two HW.out hW));unfold StrTo at this;rw[hX]at this;exact this
   have HWR:Hid (∀ W,Below wr.heap.size wr W→Calls Tryz.prog 73 #[.pointer (some ⟨B,0,none⟩),.string X] W (fun e w'=>e=.returned (.tuple #[.int .i64 X.size,.nilIface])∧Hid (Below w.heap.size w w')∧Hid (Lib.IsBuilder 147 5 B B (Lib.byteCells (((ds.take (k+1)).map tx).flatten)) w'))):=fun W hW=>by
    have hs:X.size≤100000000:=by
     have:=HLT.out (k+1);rw[zbF tx hx,List.flatten_append,yA]at this;rw[← hX,sz_mk];simp at this
     omega
    have hbs:=HLT.out k;refine (Bl.write_any B B _ X W (zkd HBU.out hW) (by rw[Lib.byteCells_length];omega) (by have h1:=HW.out.size;have h2:=hW.size;have h3:=HBE.out;omega)).mono ?_;rintro e w' ⟨rfl,h1,h2⟩;refine ⟨rfl,?_,?_⟩
    ·show Below _ _ _
     rw[← HBE.out]at h2;exact (two HW.out hW).trans h2
    ·show Lib.IsBuilder _ _ _ _ _ _
     rw[zbF tx hx,List.flatten_append,Lib.byteCells_append];refine .inr ?_;have e:Lib.byteCells [tx x].flatten=Lib.strCells X:=by rw[← hX,Lib.strCells_toArray];simp
     rw[e];exact h1
   have hkn:(k:Int)<(n:Int):=by omega
   clear hr1 hc1 hl1 hx hX;go_wp2_with (first|(refine zaF (by rfl) (ty:=88) (cs:=c1) rfl rfl (HC1.out _ (zac H.out)) uDf_ HS1.out ?_)|(refine St.w_alloc (ty:=88) H.out (by rfl) rfl zDf_ rfl ?_;intro wn Cn _ _ H2;replace H:=hid H2;clear H2)|(refine St.w_store (ty:=88) H.out (by rfl) rfl rfl rfl 0 (vs:=c1) rfl rfl HL1.out HS1.out HO1.out ?_;intro wn _ _ H2;replace H:=hid H2;clear H2)|(refine St.w_load (ty:=88) H.out (by rfl) rfl rfl 0 rfl uDf_ HS1.out ?_)|(go_at_call 74;(with_reducible (refine (HD1.out _ (zac H.out)).mono ?_));rintro e wz ⟨rfl,hb9⟩;replace H:=hid (H.out.below hb9);clear hb9)|(go_at_call 73;(with_reducible (refine (HWR.out _ (zac H.out)).mono ?_));rintro e wz ⟨rfl,HW2,HBU2⟩;clear H))
   go_roundw
   case rel=>exact ⟨k+1,by omega,by go_num,HW2,HBU2⟩
   case measure=>simp[intOf];omega
  ·obtain rfl:k=n:=by omega
   have hkn:¬ ((k:Int)<(k:Int)):=by omega
   have hb2:=HBU.out;rw[show ds.take k=ds from by rw[← HN.out,List.take_length],HT.out]at hb2;have HBF:=hid (Lib.IsBuilderF.of hb2);clear hb2 HBU;have hsz:B≤wr.heap.size:=by have h1:=HW.out.size;have h3:=HBE.out;omega
   have HS1:Hid (∀ W,Lib.IsBuilderF 147 5 B B (Lib.byteCells T) W→B≤W.heap.size→Calls Tryz.prog 75 #[.pointer (some ⟨B,0,none⟩)] W (fun e w'=>e=.returned (.string TT)∧Lib.IsBuilderF 147 5 B B (Lib.byteCells T) w'∧Below B W w')):=fun W h1 h2=>by rw[← HTT.out];exact Tryz.Builder_String_any_f B B T W h1 h2
   go_wp2_with (go_at_call 75;(with_reducible (refine (HS1.out _ HBF.out hsz).mono ?_));rintro e w2 ⟨rfl,hf2,hb2⟩)
   have HW2:Hid (Below w.heap.size w w2):=by
    show Below _ _ _
    rw[← HBE.out]at hb2;exact HW.out.trans hb2
   have HF2:=hid hf2;have hsz2:B≤w2.heap.size:=yH hsz hb2.size;clear HW HBF hf2 hb2 hsz;have HQ2:Hid (q=true↔re=0∧rl=ds):=HQ.out;clear HQ;by_cases hx:re=0
   ·subst hx;have HQ3:Hid (q=true↔rl=ds):=⟨fun h=>(HQ2.out.1 h).2,fun h=>HQ2.out.2 ⟨rfl,h⟩⟩;have HEQ:Hid (∀ W ao cp (o:Nat→Prop),Below w.heap.size w W→Rep W o (.sl 25 (rl.map dfD)) (.slice ao rl.length cp)→Calls Tryz.prog 76 #[.slice ao rl.length cp,.slice sa k ca,.func (.func 34) #[] #[]] W (EqTo W q)):=fun W ao cp o hW hR=>by
     have:=zqj rl ds q HQ3.out HI.out ao sa cp ca W o ok hR (by rw[HN.out];exact HA.out.kept (S:=fun _=>False) (Kept.of_below hW) (fun _ _ _ x=>x));rw[HN.out]at this;exact this
    clear HQ2 HQ3 HI HA
    cases q with
    | true =>
     go_wp2_with (go_at_call 32;(with_reducible (refine (HPA.out _ HW2.out).mono ?_));rintro e w3 ⟨ao,cp,rfl,hR3,_,hb3⟩;have HW3:=hid (two HW2.out hb3);have HF3:=hid (Bl.built_below HF2.out hb3);have hsz3:B≤w3.heap.size:=yH hsz2 hb3.size;have HR3:=hid hR3;clear hR3 hb3)
     go_wp2_with (first|(go_at_call 76;(with_reducible (refine (HEQ.out _ _ _ _ HW3.out HR3.out).mono ?_));rintro e w4 ⟨rfl,hb4⟩;have HW4:=hid (two HW3.out hb4);have HF4:=hid (Bl.built_below HF3.out hb4);have hsz4:=yH hsz3 hb4.size;clear hb4)|(go_at_call 75;(with_reducible (refine (HS1.out _ HF4.out hsz4).mono ?_));rintro e w5 ⟨rfl,hf5,hb5⟩))
     go_ret2
     rw[← HBE.out]at hb5;exact ⟨rfl,HW4.out.trans hb5⟩
    | false =>
     go_wp2_with (go_at_call 32;(with_reducible (refine (HPA.out _ HW2.out).mono ?_));rintro e w3 ⟨ao,cp,rfl,hR3,_,hb3⟩;have HW3:=hid (two HW2.out hb3);have HF3:=hid (Bl.built_below HF2.out hb3);have hsz3:B≤w3.heap.size:=yH hsz2 hb3.size;have HR3:=hid hR3;clear hR3 hb3)
     go_wp2_with (go_at_call 76;(with_reducible (refine (HEQ.out _ _ _ _ HW3.out HR3.out).mono ?_));rintro e w4 ⟨rfl,hb4⟩)
     go_ret2
     exact ⟨rfl,two HW3.out hb4⟩
   ·obtain rfl:q=false:=zbB HQ2.out fun h=>hx h.1
    have hx1:(re != 0)=true:=by rw[bne_iff_ne];exact hx
    clear hx HQ2 HI HA;go_wp2_with (go_at_call 32;(with_reducible (refine (HPA.out _ HW2.out).mono ?_));rintro e w3 ⟨ao,cp,rfl,hR3,_,hb3⟩;have HW3:=hid (two HW2.out hb3);have HF3:=hid (Bl.built_below HF2.out hb3);have hsz3:B≤w3.heap.size:=yH hsz2 hb3.size;have HR3:=hid hR3;clear hR3 hb3)
    go_ret2
    exact ⟨rfl,HW3.out⟩
theorem zmz (d:Df) (T:Str) (q:Bool) (hq:q=true↔((zaJ T).2.2=0∧(zaJ T).1=[d])) (he:∀ x∈(zaJ T).1,DqOk x d)
 (cs:List Value) (w:World) (ok:Nat→Prop) (hA:Row w ok (dfD d) cs) (hE:EnvX w) (hdef:∀ (cs:List Value) (W:World) (ok:Nat→Prop),Row W ok (dfD d) cs→EnvX W→Calls Tryz.prog 74 #[.agg cs.toArray] W (StrTo T W)) (hlen:T.length≤100000000):Calls Tryz.prog 42 #[.agg cs.toArray] w (ShTo q ⟨T.toArray⟩ w):=by
 have H:=hid (St.start (S:=fun _=>False) w);have hcl:=zor hA;obtain ⟨c0,c1,c2,c3,c4,c5,c6,c7,c8,c9,c10,c11,c12,c13,c14,c15,c16,c17,c18,c19,c20,c21,c22,c23,c24,rfl⟩:∃ c0 c1 c2 c3 c4 c5 c6 c7 c8 c9 c10 c11 c12 c13 c14 c15 c16 c17 c18 c19 c20 c21 c22 c23 c24,cs=[c0,c1,c2,c3,c4,c5,c6,c7,c8,c9,c10,c11,c12,c13,c14,c15,c16,c17,c18,c19,c20,c21,c22,c23,c24]:=by
  rcases cs with _|⟨c0,_|⟨c1,_|⟨c2,_|⟨c3,_|⟨c4,_|⟨c5,_|⟨c6,_|⟨c7,_|⟨c8,_|⟨c9,_|⟨c10,_|⟨c11,_|⟨c12,_|⟨c13,_|⟨c14,_|⟨c15,_|⟨c16,_|⟨c17,_|⟨c18,_|⟨c19,_|⟨c20,_|⟨c21,_|⟨c22,_|⟨c23,_|⟨c24,_|⟨c25,cs⟩⟩⟩⟩⟩⟩⟩⟩⟩⟩⟩⟩⟩⟩⟩⟩⟩⟩⟩⟩⟩⟩⟩⟩⟩⟩<;>first|exact ⟨_,_,_,_,_,_,_,_,_,_,_,_,_,_,_,_,_,_,_,_,_,_,_,_,_,rfl⟩|(simp at hcl)
 have HSH:Hid (∀ W C,Below w.heap.size w W→Box W C [c0,c1,c2,c3,c4,c5,c6,c7,c8,c9,c10,c11,c12,c13,c14,c15,c16,c17,c18,c19,c20,c21,c22,c23,c24]→Calls Tryz.prog 41 #[.slice (some ⟨C,0,none⟩) 1 1] W (ShTo q ⟨T.toArray⟩ W)):=fun W C hW hb=>by
  have hrow:=hA.kept (S:=fun _=>False) (Kept.of_below hW) (fun _ _ _ x=>x);refine show_any [d] (fun _=>T) T (by simp) q hq (fun i x y hx hy=>?_) (fun d' hd' cs W ok h1 h2=>?_) hlen (some ⟨C,0,none⟩) 1 W (fun _=>True) (.sl 25 [dfD d] (some ⟨C,0,none⟩) 1 [[c0,c1,c2,c3,c4,c5,c6,c7,c8,c9,c10,c11,c12,c13,c14,c15,c16,c17,c18,c19,c20,c21,c22,c23,c24]] (yG _) (by unfold maxLen;decide) rfl (fun i r cs hr hc=>?_) (fun i cs hi=>?_) (fun i r cs j dd c hr hc hd hcc=>?_)) (hE.below hW)
  ·cases i with
   | zero =>
    obtain rfl:d=y:=by simpa using hy
    exact he x (yP hx)
   | succ i=>simp at hy
  ·obtain rfl:d'=d:=by simpa using hd'
   exact hdef cs W ok h1 h2
  ·cases i with
   | zero =>
    simp only[List.getElem?_cons_zero,Option.some.injEq]at hr hc;subst hr hc;exact ⟨zj5 d,rfl⟩
   | succ i=>simp at hr
  ·cases i with
   | zero =>
    simp only[List.getElem?_cons_zero,Option.some.injEq]at hi;subst hi;refine ⟨C,0,rfl,hb.lt,trivial,fun j hj=>?_⟩;rw[Nat.zero_mul,Nat.zero_add,Nat.zero_add];rw[hb.cl j _ (yF (by exact hj))];exact (yF (by exact hj)).symm
   | succ i=>simp at hi
  ·cases i with
   | zero =>
    simp only[List.getElem?_cons_zero,Option.some.injEq]at hr hc;subst hr hc;exact (hrow.2 j dd c hd hcc).weak fun _ _ _=>trivial
   | succ i=>simp at hr
 have HO1:Hid (∀ v∈[c0,c1,c2,c3,c4,c5,c6,c7,c8,c9,c10,c11,c12,c13,c14,c15,c16,c17,c18,c19,c20,c21,c22,c23,c24],v.oneCell'=true):=hA.one;obtain ⟨TT,hTT⟩:∃ TT:ByteArray,(⟨T.toArray⟩:ByteArray)=TT:=⟨_,rfl⟩;rw[hTT]at HSH ⊢;unfold ShTo at HSH ⊢;generalize (if q then TT else ⟨#[]⟩:ByteArray)=RT at HSH ⊢;generalize (if q then 0 else 20:Int)=RE at HSH ⊢;clear hA hE hdef hq he hlen hTT hcl;go_enter func42,ntmps42
 go_wp2_with (first|(refine St.w_box (vs:=[c0,c1,c2,c3,c4,c5,c6,c7,c8,c9,c10,c11,c12,c13,c14,c15,c16,c17,c18,c19,c20,c21,c22,c23,c24]) H.out (by rfl) rfl rfl rfl ?_;intro wn X _ _ H2;replace H:=hid H2;clear H2)|(refine St.w_load (ty:=88) H.out (by rfl) rfl rfl 0 rfl uDf_ sDf_ ?_)|(refine St.w_lit1 H.out (by rfl) rfl underlying74 iDf2_ rfl rfl (by decide) (by decide) rfl rfl ?_;intro wl Cl H2;replace H:=hid H2;clear H2)|(go_at_call 41;(with_reducible (refine (HSH.out _ _ (zac H.out) (H.out.at (i:=0) rfl)).mono ?_));rintro e wz ⟨rfl,hb9⟩;replace H:=hid (H.out.below hb9);clear hb9))
 go_ret2
 exact ⟨rfl,zac H.out⟩
