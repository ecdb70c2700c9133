/- Walks of layer 14's laws: sources. -/
import Derived.Test.YtonkjhmkppeagaaGreatDoorNLs
import Derived.Test.YtonkjhmkppeagaaGreatDoorNQf
import Derived.Deep.DeepCutAuto
set_option linter.unusedVariables false
set_option linter.unusedSimpArgs false
namespace Go.Proofs.YtonkjhmkppeagaaGreatDoor.Pz
open Go.RowKit Go Go.Sort Ba Lx
theorem _root_.Go.Proofs.YtonkjhmkppeagaaGreatDoor.Ba.wpAnyM_imp {P:Program} {md:Region.Mode} {ops:Array Oper} {Q:Exit→Act→World→Prop} {S S2:World→Prop} {m:Nat} (h:∀ w,S2 w→S w):∀ (fuel:Nat) (listed:Array Bool) (a:Act) (w:World),wpAnyM P md ops Q S2 m fuel listed a w→wpAnyM P md ops Q S m fuel listed a w
 | 0,_,_,_,x=>x
 | fuel+1,_,_,_,⟨x1,x2⟩=>⟨x1,fun i hi=>wpOp_mono (fun a' w' ⟨hs,hw⟩=>⟨fun e=>h _ (hs e),Ba.wpAnyM_imp h fuel _ a' w' hw⟩) (x2 i hi)⟩
theorem St.cellS {S:Nat→Prop} {w0 w:World} {L:List Bx} {D:List (List Dat × List Value)} {O:List Ow} (h:St S w0 w L D O) {i C:Nat} {us:List Value} (hi:L[i]?=some (C,us)) {off:Nat} {v:Value} (hv:us[off]?=some v):w.cell? ⟨C,off,none⟩=some v:=(h.at hi).cl off v hv
def colsOf (l:List Str):List (Str × Int):=l.mapIdx fun i c=>(c,1+((i % 2:Nat):Int))
theorem colsOf_len (l:List Str):(colsOf l).length=l.length:=by unfold colsOf;rw [List.length_mapIdx]
theorem colsOf_at {l:List Str} {k:Nat} {x:Str} (h:l[k]?=some x):(colsOf l)[k]?=some (x,1+((k % 2:Nat):Int)):=by
 unfold colsOf
 rw [List.getElem?_mapIdx,h];rfl
theorem colsOf_mem {l:List Str} {c:Str × Int} (h:c ∈ colsOf l):c.1 ∈ l∧(c.2=1∨c.2=2):=by
 obtain ⟨k,hk⟩:=List.mem_iff_getElem?.1 h
 have hl:k < l.length:=by rw [← colsOf_len];exact (List.getElem?_eq_some_iff.1 hk).1
 obtain ⟨x,hx⟩:∃ x,l[k]?=some x:=⟨_,List.getElem?_eq_getElem hl⟩
 rw [colsOf_at hx] at hk
 obtain rfl:=Option.some.inj hk
 exact ⟨List.mem_of_getElem? hx,by simp only;omega⟩
set_option maxRecDepth 100000 in
set_option maxHeartbeats 12800000 in
theorem sources_law (name:ByteArray) (l:List Str) (K A B:Int) (hn:name.size≤9223372036854775807) (hls:∀ s ∈ l,s.length≤9223372036854775807) (hA2:A≤9223372036854775807) (hB2:B≤9223372036854775807) (sa:Option Addr) (ca:Nat) (w:World) (ok:Nat→Prop) (hA:Rep w ok (.sl 1 (l.map strD)) (.slice sa l.length ca)) (hE:EnvL w) :
 Calls Tryz.prog 7 #[.string name,.slice sa l.length ca,.agg #[.int .i64 K,.int .i64 A,.int .i64 B]] w (EqTo w true):=by
 have HAW:Hid (∀ W,Below w.heap.size w W→Calls Tryz.prog 23 #[] W (EqTo W true)):=fun W hW=>awakeQ_any W (hE.below hW)
 have HRA:=Lib.hid (fun W (hW:Below w.heap.size w W)=>hA.kept (S:=fun _=>False) (Kept.of_below hW) (fun _ _ _ x=>x))
 obtain ⟨n,rfl⟩:∃ n:Str,name=⟨n.toArray⟩:=⟨name.data.toList,by rw [Array.toArray_toList]⟩
 obtain ⟨qn,hqn⟩:∃ q,wordQ n=q:=⟨_,rfl⟩
 obtain ⟨qs,hqs⟩:∃ q,wordsQ l=q:=⟨_,rfl⟩
 obtain ⟨N,hN⟩:∃ N:ByteArray,(⟨n.toArray⟩:ByteArray)=N:=⟨_,rfl⟩
 have HW:Hid (∀ W,Below w.heap.size w W→Calls Tryz.prog 21 #[.string N] W (EqTo W qn)):=fun W hW=>by
  have:=word_any n W (by rw [← szm];exact hn)
  rw [hqn,hN] at this
  exact this
 have HWS:Hid (∀ W,Below w.heap.size w W→Calls Tryz.prog 22 #[.slice sa l.length ca] W (EqTo W qs)):=fun W hW=>by
  have:=wordsB_any l hls sa ca W ok (HRA.out W hW)
  rw [hqs] at this
  exact this
 have H:=Lib.hid (St.start (S:=fun _=>False) w)
 obtain ⟨L,hL⟩:∃ L,l.length=L:=⟨_,rfl⟩
 by_cases hall:qn=true∧qs=true∧(1≤K∧K≤5)∧0≤A∧0≤B
 ·obtain ⟨rfl,rfl,⟨hK1,hK5⟩,hA0,hB0⟩:=hall
  have hnw:=wordQ_ok hqn
  have hmw:∀ m ∈ l,WordOk m∧m.length≤16:=fun m hm=>by
   unfold wordsQ at hqs
   rw [Bool.and_eq_true,List.all_eq_true] at hqs
   have:=wordQ_ok (hqs.1 m hm)
   exact ⟨this.1,this.2.1⟩
  have hml:0 < l.length∧l.length≤20:=by
   unfold wordsQ at hqs
   rw [Bool.and_eq_true,decide_eq_true_eq] at hqs
   exact hqs.2
  obtain ⟨kk,rfl⟩:∃ kk:Nat,K=kk:=⟨K.toNat,by omega⟩
  have hsc:OkSc ⟨(kk:Int),A,B⟩:=⟨⟨hK1,hK5⟩,⟨hA0,hA2⟩,⟨hB0,hB2⟩⟩
  have hc0:colsOf l≠[]:=fun e=>by have:=colsOf_len l;rw [e] at this;simp at this;omega
  have hlaw:=source_law (n:=n) (cs:=colsOf l) (s:=⟨(kk:Int),A,B⟩) hnw.1 hnw.2.1 hc0 (by rw [colsOf_len];exact hml.2) (fun c hc=>by
   obtain ⟨h1,h2⟩:=colsOf_mem hc
   exact ⟨(hmw _ h1).1,(hmw _ h1).2,h2⟩) hsc
  have hjb:(joinS [44] ((colsOf l).map colT)).length≤1000:=by
   have:=hlaw.2.2
   unfold srcT0 at this
   simp only [List.length_append,List.length_cons] at this
   omega
  obtain ⟨J,hJ⟩:∃ J:ByteArray,(⟨(joinS [44] ((colsOf l).map colT)).toArray⟩:ByteArray)=J:=⟨_,rfl⟩
  obtain ⟨KS,hKS⟩:∃ J:ByteArray,(⟨(wAt schemeWords (kk:Int)).toArray⟩:ByteArray)=J:=⟨_,rfl⟩
  obtain ⟨NA,hNA⟩:∃ J:ByteArray,(⟨(Lib.itoa A).toArray⟩:ByteArray)=J:=⟨_,rfl⟩
  obtain ⟨NB,hNB⟩:∃ J:ByteArray,(⟨(Lib.itoa B).toArray⟩:ByteArray)=J:=⟨_,rfl⟩
  have HJ:Hid (∀ W (q:Nat→Prop) ao cp,Rep W q (.sl 1 (((colsOf l).map colT).map strD)) (.slice ao L cp)→Calls Tryz.prog 35 #[.slice ao L cp,.string ⟨#[44]⟩] W fun e w'=>e=.returned (.string J)∧Below W.heap.size W w'):=fun W q ao cp hR=>by
   have hlen:((colsOf l).map colT).length=L:=by rw [List.length_map,colsOf_len,hL]
   have:=joinL_any ((colsOf l).map colT) [44] (by omega) (by omega) (by decide) ao cp W q (by rw [hlen];exact hR)
   unfold StrTo at this
   rw [hJ,hlen] at this
   exact this
  have HNA:Hid (∀ W,Calls Tryz.prog 28 #[.int .i64 A] W fun e w'=>e=.returned (.string NA)∧Below W.heap.size W w'):=fun W=>by
   have:=Va.number_any A W (by omega) hA2
   rw [hNA] at this
   exact this
  have HNB:Hid (∀ W,Calls Tryz.prog 28 #[.int .i64 B] W fun e w'=>e=.returned (.string NB)∧Below W.heap.size W w'):=fun W=>by
   have:=Va.number_any B W (by omega) hB2
   rw [hNB] at this
   exact this
  have hTe:((((((((((⟨#[115,111,117,114,99,101,32]⟩:ByteArray)++N)++⟨#[40]⟩)++J)++⟨#[41,32]⟩)++KS)++⟨#[32]⟩)++NA)++⟨#[46,46]⟩)++NB)++⟨#[59]⟩=⟨(srcT0 n (colsOf l) ⟨(kk:Int),A,B⟩++[59]).toArray⟩:=by
   rw [← hN,← hJ,← hKS,← hNA,← hNB]
   show ((((((((((⟨([115,111,117,114,99,101,32]:Str).toArray⟩:ByteArray)++⟨n.toArray⟩)++⟨([40]:Str).toArray⟩)++⟨(joinS [44] ((colsOf l).map colT)).toArray⟩)++⟨([41,32]:Str).toArray⟩)++⟨(wAt schemeWords (kk:Int)).toArray⟩)++⟨([32]:Str).toArray⟩)++⟨(Lib.itoa A).toArray⟩)++⟨([46,46]:Str).toArray⟩)++⟨(Lib.itoa B).toArray⟩)++⟨([59]:Str).toArray⟩=_
   rw [apm,apm,apm,apm,apm,apm,apm,apm,apm,apm]
   congr 2
   unfold srcT0 scT
   rw [if_pos hsc.1]
   simp [sSource]
  have HO:Hid (∀ W (q:Nat→Prop) bo bp,Rep W q (.sl 2 ((colsOf l).map colD)) (.slice bo L bp)→Below w.heap.size w W→Calls Tryz.prog 36 #[.string (((((((((((⟨#[115,111,117,114,99,101,32]⟩:ByteArray)++N)++⟨#[40]⟩)++J)++⟨#[41,32]⟩)++KS)++⟨#[32]⟩)++NA)++⟨#[46,46]⟩)++NB)++⟨#[59]⟩),.agg #[.int .i64 1,.string N,.slice bo L bp,.int .i64 (kk:Int),.int .i64 A,.int .i64 B,.slice none 0 0,.int .i64 0,.string ⟨#[]⟩,.slice none 0 0,.int .i64 0,.string ⟨#[]⟩,.int .i64 0,.int .i64 0,.string ⟨#[]⟩,.string ⟨#[]⟩,.slice none 0 0,.slice none 0 0,.slice none 0 0,.slice none 0 0,.slice none 0 0,.slice none 0 0,.int .i64 0,.string ⟨#[]⟩,.slice none 0 0]] W (EqTo W true)):=fun W q bo bp hR hW=>by
   have:=one_law_any (srcT0 n (colsOf l) ⟨(kk:Int),A,B⟩) ⟨1,n,colsOf l,⟨(kk:Int),A,B⟩,[],zPl,[],[]⟩ ⟨hlaw.1,hlaw.2.1⟩ (by have:=hlaw.2.2;omega) _ hTe (.slice bo L bp) (.slice none 0 0) (.slice none 0 0) _ W (fun _=>True) ⟨hR.weak fun _ _ _=>trivial,Rep.nil _ _ _,row_zPl W _,Rep.nil _ _ _⟩ (hE.below hW)
   unfold dfV at this
   simp only [hN] at this
   exact this
  have hNs:N.size≤1000:=by rw [← hN,szm];omega
  have hJs:J.size≤1000:=by rw [← hJ,szm];exact hjb
  have hKs:KS.size≤1000:=by rw [← hKS,szm];have h7:(wAt schemeWords (kk:Int)).length≤7:=(wAt_len hsc.1).1;omega
  have hNAs:NA.size≤1000:=by rw [← hNA,szm];have:=Lib.itoa_length_le A (by omega) hA2;omega
  have hNBs:NB.size≤1000:=by rw [← hNB,szm];have:=Lib.itoa_length_le B (by omega) hB2;omega
  have HKS:Hid (([.string ⟨#[]⟩,.string ⟨#[104,111,117,114,108,121]⟩,.string ⟨#[100,97,105,108,121]⟩,.string ⟨#[119,101,101,107,108,121]⟩,.string ⟨#[109,111,110,116,104,108,121]⟩,.string ⟨#[115,116,97,116,105,99]⟩]:List Value)[kk]?=some (.string KS)):=by
   show _=_
   rw [← hKS]
   have:kk=1∨kk=2∨kk=3∨kk=4∨kk=5:=by omega
   rcases this with rfl|rfl|rfl|rfl|rfl<;>rfl
  have hz30:¬ 9223372036854775807 < 7+N.size:=by omega
  have hz31:¬ 9223372036854775807 < 7+N.size+1:=by omega
  have hz32:¬ 9223372036854775807 < 7+N.size+1+J.size:=by omega
  have hz33:¬ 9223372036854775807 < 7+N.size+1+J.size+2:=by omega
  have hz34:¬ 9223372036854775807 < 7+N.size+1+J.size+2+KS.size:=by omega
  have hz35:¬ 9223372036854775807 < 7+N.size+1+J.size+2+KS.size+1:=by omega
  have hz36:¬ 9223372036854775807 < 7+N.size+1+J.size+2+KS.size+1+NA.size:=by omega
  have hz37:¬ 9223372036854775807 < 7+N.size+1+J.size+2+KS.size+1+NA.size+2:=by omega
  have hz38:¬ 9223372036854775807 < 7+N.size+1+J.size+2+KS.size+1+NA.size+2+NB.size:=by omega
  have hz39:¬ 9223372036854775807 < 7+N.size+1+J.size+2+KS.size+1+NA.size+2+NB.size+1:=by omega
  have HXA:Hid (∀ (k:Nat) (x:Str),l[k]?=some x→x.length≤16):=fun k x hx=>(hmw x (List.mem_of_getElem? hx)).2
  have HLL:=Lib.hid hL
  have hL20:L≤20:=by omega
  have g1:decide ((kk:Int) < 1)=false:=by rw [decide_eq_false_iff_not];omega
  have g2:decide (5 < (kk:Int))=false:=by rw [decide_eq_false_iff_not];omega
  have g3:decide (A < 0)=false:=by rw [decide_eq_false_iff_not];omega
  have g4:decide (B < 0)=false:=by rw [decide_eq_false_iff_not];omega
  have hk6:kk < 6:=by omega
  rw [hL,hN]
  rw [hL] at HWS HRA
  clear hE hA hn hls hqn hqs hN hL hnw hmw hml hsc hc0 hlaw hjb hJ hKS hNA hNB hTe hK1 hK5 hA0 hB0 hA2 hB2
  go_enter Tryz.func7,Tryz.ntmps7
  go_wp2_with (first|(refine St.w_box (vs:=[.int .i64 (kk:Int),.int .i64 A,.int .i64 B]) H.out (by rfl) rfl rfl rfl ?_;intro wn Sb _ _ H2;replace H:=Lib.hid H2;clear H2)|(go_at_call 21;(with_reducible (refine (HW.out _ (st_bel H.out)).mono ?_));rintro e wc ⟨rfl,hb9⟩;have H2:=H.out.below hb9;clear hb9;replace H:=Lib.hid H2;clear H2)|(go_at_call 22;(with_reducible (refine (HWS.out _ (st_bel H.out)).mono ?_));rintro e wc ⟨rfl,hb9⟩;have H2:=H.out.below hb9;clear hb9;replace H:=Lib.hid H2;clear H2)|(refine St.w_load1 (ty:=3) H.out (by rfl) rfl rfl 0 rfl rfl uInt_ ?_)|(refine St.w_load (ty:=85) H.out (by rfl) rfl rfl 0 rfl uSc_ sSc_ ?_)|(refine St.w_alloc (ty:=88) H.out (by rfl) rfl zDf_ rfl ?_;intro wn Wb _ _ H2;replace H:=Lib.hid H2;clear H2)|(first|(refine St.w_store (ty:=88) H.out (by rfl) rfl rfl rfl 0 rfl rfl rfl sDf_ (all_one rfl) ?_;intro wn _ _ H2;replace H:=Lib.hid H2;clear H2)))
  have H2:=(H.out.gather 92 2).gather 9 1
  clear H HW HWS
  have H:=Lib.hid H2
  clear H2
  go_loopw [7,46] (fun v i wr=>∃ (k:Nat) (ao:Option Addr) (cp:Nat) (cells:List (List Value)) (bo:Option Addr) (bp:Nat) (bcells:List (List Value)),k≤L∧v=.slice ao k cp∧i=.int .i64 k∧Hid (St (fun _=>False) w wr [(Wb,[.int .i64 1,.string N,.slice bo k bp,.int .i64 (kk:Int),.int .i64 A,.int .i64 B,.slice none 0 0,.int .i64 0,.string ⟨#[]⟩,.slice none 0 0,.int .i64 0,.string ⟨#[]⟩,.int .i64 0,.int .i64 0,.string ⟨#[]⟩,.string ⟨#[]⟩,.slice none 0 0,.slice none 0 0,.slice none 0 0,.slice none 0 0,.slice none 0 0,.slice none 0 0,.int .i64 0,.string ⟨#[]⟩,.slice none 0 0]),(Sb,[.int .i64 (kk:Int),.int .i64 A,.int .i64 B])] [] [⟨9,1,.slice ao k cp,((colsOf l).take k).map (fun c=>strD (colT c)),cells⟩,⟨92,2,.slice bo k bp,((colsOf l).take k).map colD,bcells⟩])) (fun _ i _=>L - (intOf i).toNat)
  case atStart=>exact ⟨0,none,0,[],none,0,[],Nat.zero_le _,rfl,rfl,H⟩
  case round =>
   clear H
   obtain ⟨k,ao,cp,cells,bo,bp,bcells,hk,rfl,rfl,H⟩:=hrel
   have HCL:Hid ((colsOf l).length=L):=by show _=_;rw [colsOf_len,HLL.out]
   by_cases hlt:k < L
   ·obtain ⟨x,hx⟩:∃ x,l[k]?=some x:=⟨_,List.getElem?_eq_getElem (by rw [HLL.out];exact hlt)⟩
    obtain ⟨b1,o1,rfl,hc1⟩:=(HRA.out w (Below.refl _ _)).cells_at (i:=k) (r:=strD x) (vs:=[.string ⟨x.toArray⟩]) (by rw [List.getElem?_map,hx];rfl) rfl
    have hxl:=HXA.out k x hx
    obtain ⟨X,hX⟩:∃ X:ByteArray,(⟨x.toArray⟩:ByteArray)=X:=⟨_,rfl⟩
    have hXs:X.size≤1000:=by rw [← hX,szm];omega
    have HC:Hid (∀ W,Below w.heap.size w W→W.cell? ⟨b1,o1+k,none⟩=some (.string X)):=fun W hW=>by have:=hc1 W hW 0 _ rfl;rw [hX] at this;simpa [Nat.add_assoc] using this
    have HX:=Lib.hid hx
    have HXX:=Lib.hid hX
    have HRL:Hid ((((colsOf l).take k).map (fun c=>strD (colT c))).length=k):=by show _=_;rw [List.length_map,List.length_take,HCL.out];omega
    have HRL2:Hid ((((colsOf l).take k).map colD).length=k):=by show _=_;rw [List.length_map,List.length_take,HCL.out];omega
    have HMIN:Hid (min k (colsOf l).length=k):=by show _=_;rw [HCL.out];omega
    have hkn:k+1≤1000000:=by omega
    have HKL:=Lib.hid hkn
    have hlt2:(k:Int) < (L:Int):=by omega
    have hp:k % 2=0∨k % 2=1:=by omega
    clear hc1 hx hX hxl hkn
    rcases hp with hp|hp
    ·have hmod:(k:Int).tmod 2=0:=by rw [Int.tmod_eq_emod_of_nonneg (by omega)];omega
     have e2:(colsOf l)[k]?=some (x,1):=by rw [colsOf_at HX.out,hp];rfl
     have HTK1:=Lib.hid (take_map_snoc (fun c=>strD (colT c)) e2)
     have HTK2:=Lib.hid (take_map_snoc colD e2)
     have HW:Hid (X++⟨#[32,105,110,116]⟩=⟨(colT (x,1)).toArray⟩):=by
      show _=_
      rw [← HXX.out]
      show (⟨x.toArray⟩:ByteArray)++⟨([32,105,110,116]:Str).toArray⟩=_
      rw [apm];rfl
     have HROW:Hid (∀ (W:World) (q:Nat→Prop),Row W q (strD (colT (x,1))) [.string (X++⟨#[32,105,110,116]⟩)]):=fun W q=>by rw [HW.out];exact (Row.nil W q).cons (.v _ rfl)
     have HROC:Hid (∀ (W:World) (q:Nat→Prop),Row W q (colD (x,1)) [.string X,.int .i64 1]):=fun W q=>by rw [← HXX.out];exact ((Row.nil W q).cons (.v _ rfl)).cons (.v _ rfl)
     clear e2 HW hp
     go_wp2_with (first|(refine wpList_load_cell (by rfl) (ty:=9) rfl rfl (HC.out _ (st_bel H.out)) uStr_ ?_)|(refine St.w_lit H.out (by rfl) rfl Tryz.underlying48 iStr2_ [.string ⟨#[32,105,110,116]⟩,.string ⟨#[32,116,101,120,116]⟩] rfl rfl rfl (by decide) (by decide) (by decide) (all_k rfl) rfl ?_;intro wl Lb _ H2;replace H:=Lib.hid H2;clear H2)|(refine St.w_load1 (ty:=9) H.out (by rfl) rfl rfl 0 rfl rfl uStr_ ?_)|(refine St.w_lit1 H.out (by rfl) rfl Tryz.underlying48 iStr2_ rfl rfl (by decide) (by decide) rfl rfl ?_;intro wl Cl H2;replace H:=Lib.hid H2;clear H2)|(refine St.w_append (r:=strD (colT (x,1))) H.out (by rfl) rfl Tryz.underlying48 iStr_ rfl (by decide) (by decide) 0 rfl rfl rfl rfl rfl 0 rfl rfl (HROW.out _ _) (by rw [HRL.out];exact HKL.out) ?_;intro wl ao9 cap9 _ H2;replace H:=Lib.hid H2;clear H2)|(refine St.w_load1 (ty:=83) H.out (by rfl) rfl rfl 2 rfl rfl uSch_ ?_)|(refine St.w_lit1 H.out (by rfl) rfl Tryz.underlying83 iCo2_ rfl rfl (by decide) (by decide) rfl rfl ?_;intro wl Cm H2;replace H:=Lib.hid H2;clear H2)|(refine St.w_append (r:=colD (x,1)) H.out (by rfl) rfl Tryz.underlying83 iCo_ rfl (by decide) (by decide) 1 rfl rfl rfl rfl rfl 0 rfl rfl (HROC.out _ _) (by rw [HRL2.out];exact HKL.out) ?_;intro wl bo9 bp9 _ H2;replace H:=Lib.hid H2;clear H2)|(refine St.w_store1 (ty:=83) H.out (by rfl) rfl rfl rfl 3 rfl (Nat.le_of_ble_eq_true rfl) sSch_ rfl ?_;intro wn _ _ H2;replace H:=Lib.hid H2;clear H2))
     have H3:=H.out.drop (L':=[(Wb,[.int .i64 1,.string N,(.slice bo9 (min k (colsOf l).length+1) bp9),.int .i64 (kk:Int),.int .i64 A,.int .i64 B,.slice none 0 0,.int .i64 0,.string ⟨#[]⟩,.slice none 0 0,.int .i64 0,.string ⟨#[]⟩,.int .i64 0,.int .i64 0,.string ⟨#[]⟩,.string ⟨#[]⟩,.slice none 0 0,.slice none 0 0,.slice none 0 0,.slice none 0 0,.slice none 0 0,.slice none 0 0,.int .i64 0,.string ⟨#[]⟩,.slice none 0 0]),(Sb,[.int .i64 (kk:Int),.int .i64 A,.int .i64 B])]) (.cons _ (.cons _ (.cons _ (List.Sublist.refl _))))
     simp only [List.set_cons_zero,List.set_cons_succ] at H3
     rw [HRL.out,HRL2.out] at H3
     rw [HMIN.out] at H3
     have H4:=Lib.hid H3
     clear H H3
     go_roundw
     case rel=>exact ⟨k+1,ao9,cap9,_,bo9,bp9,_,by omega,by first|rw [HRL.out]|rw [HMIN.out],by go_num,by show St _ _ _ _ _ _;rw [HTK1.out,HTK2.out];exact H4.out⟩
     case measure=>simp [intOf];omega
    ·have hmod:(k:Int).tmod 2=1:=by rw [Int.tmod_eq_emod_of_nonneg (by omega)];omega
     have e2:(colsOf l)[k]?=some (x,2):=by rw [colsOf_at HX.out,hp];rfl
     have HTK1:=Lib.hid (take_map_snoc (fun c=>strD (colT c)) e2)
     have HTK2:=Lib.hid (take_map_snoc colD e2)
     have HW:Hid (X++⟨#[32,116,101,120,116]⟩=⟨(colT (x,2)).toArray⟩):=by
      show _=_
      rw [← HXX.out]
      show (⟨x.toArray⟩:ByteArray)++⟨([32,116,101,120,116]:Str).toArray⟩=_
      rw [apm];rfl
     have HROW:Hid (∀ (W:World) (q:Nat→Prop),Row W q (strD (colT (x,2))) [.string (X++⟨#[32,116,101,120,116]⟩)]):=fun W q=>by rw [HW.out];exact (Row.nil W q).cons (.v _ rfl)
     have HROC:Hid (∀ (W:World) (q:Nat→Prop),Row W q (colD (x,2)) [.string X,.int .i64 2]):=fun W q=>by rw [← HXX.out];exact ((Row.nil W q).cons (.v _ rfl)).cons (.v _ rfl)
     clear e2 HW hp
     go_wp2_with (first|(refine wpList_load_cell (by rfl) (ty:=9) rfl rfl (HC.out _ (st_bel H.out)) uStr_ ?_)|(refine St.w_lit H.out (by rfl) rfl Tryz.underlying48 iStr2_ [.string ⟨#[32,105,110,116]⟩,.string ⟨#[32,116,101,120,116]⟩] rfl rfl rfl (by decide) (by decide) (by decide) (all_k rfl) rfl ?_;intro wl Lb _ H2;replace H:=Lib.hid H2;clear H2)|(refine St.w_load1 (ty:=9) H.out (by rfl) rfl rfl 0 rfl rfl uStr_ ?_)|(refine St.w_lit1 H.out (by rfl) rfl Tryz.underlying48 iStr2_ rfl rfl (by decide) (by decide) rfl rfl ?_;intro wl Cl H2;replace H:=Lib.hid H2;clear H2)|(refine St.w_append (r:=strD (colT (x,2))) H.out (by rfl) rfl Tryz.underlying48 iStr_ rfl (by decide) (by decide) 0 rfl rfl rfl rfl rfl 0 rfl rfl (HROW.out _ _) (by rw [HRL.out];exact HKL.out) ?_;intro wl ao9 cap9 _ H2;replace H:=Lib.hid H2;clear H2)|(refine St.w_load1 (ty:=83) H.out (by rfl) rfl rfl 2 rfl rfl uSch_ ?_)|(refine St.w_lit1 H.out (by rfl) rfl Tryz.underlying83 iCo2_ rfl rfl (by decide) (by decide) rfl rfl ?_;intro wl Cm H2;replace H:=Lib.hid H2;clear H2)|(refine St.w_append (r:=colD (x,2)) H.out (by rfl) rfl Tryz.underlying83 iCo_ rfl (by decide) (by decide) 1 rfl rfl rfl rfl rfl 0 rfl rfl (HROC.out _ _) (by rw [HRL2.out];exact HKL.out) ?_;intro wl bo9 bp9 _ H2;replace H:=Lib.hid H2;clear H2)|(refine St.w_store1 (ty:=83) H.out (by rfl) rfl rfl rfl 3 rfl (Nat.le_of_ble_eq_true rfl) sSch_ rfl ?_;intro wn _ _ H2;replace H:=Lib.hid H2;clear H2))
     have H3:=H.out.drop (L':=[(Wb,[.int .i64 1,.string N,(.slice bo9 (min k (colsOf l).length+1) bp9),.int .i64 (kk:Int),.int .i64 A,.int .i64 B,.slice none 0 0,.int .i64 0,.string ⟨#[]⟩,.slice none 0 0,.int .i64 0,.string ⟨#[]⟩,.int .i64 0,.int .i64 0,.string ⟨#[]⟩,.string ⟨#[]⟩,.slice none 0 0,.slice none 0 0,.slice none 0 0,.slice none 0 0,.slice none 0 0,.slice none 0 0,.int .i64 0,.string ⟨#[]⟩,.slice none 0 0]),(Sb,[.int .i64 (kk:Int),.int .i64 A,.int .i64 B])]) (.cons _ (.cons _ (.cons _ (List.Sublist.refl _))))
     simp only [List.set_cons_zero,List.set_cons_succ] at H3
     rw [HRL.out,HRL2.out] at H3
     rw [HMIN.out] at H3
     have H4:=Lib.hid H3
     clear H H3
     go_roundw
     case rel=>exact ⟨k+1,ao9,cap9,_,bo9,bp9,_,by omega,by first|rw [HRL.out]|rw [HMIN.out],by go_num,by show St _ _ _ _ _ _;rw [HTK1.out,HTK2.out];exact H4.out⟩
     case measure=>simp [intOf];omega
   ·obtain rfl:k=L:=by omega
    have htk:(colsOf l).take k=colsOf l:=by rw [← HCL.out,List.take_length]
    have hlt2:¬ ((k:Int) < (k:Int)):=by omega
    have H3:=H.out.shut.shut
    rw [htk,show (colsOf l).map (fun c=>strD (colT c))=((colsOf l).map colT).map strD from by rw [List.map_map];rfl] at H3
    replace H:=Lib.hid H3
    have hkk:(kk:Int) < 6:=by omega
    clear htk H3
    go_upto_region 11 with (fail)
    go_cut [11] (fun s11 wx=>s11=.string (((((((((((⟨#[115,111,117,114,99,101,32]⟩:ByteArray)++N)++⟨#[40]⟩)++J)++⟨#[41,32]⟩)++KS)++⟨#[32]⟩)++NA)++⟨#[46,46]⟩)++NB)++⟨#[59]⟩)∧Hid (St (fun _=>False) w wx [(Wb,[.int .i64 1,.string N,.slice bo k bp,.int .i64 (kk:Int),.int .i64 A,.int .i64 B,.slice none 0 0,.int .i64 0,.string ⟨#[]⟩,.slice none 0 0,.int .i64 0,.string ⟨#[]⟩,.int .i64 0,.int .i64 0,.string ⟨#[]⟩,.string ⟨#[]⟩,.slice none 0 0,.slice none 0 0,.slice none 0 0,.slice none 0 0,.slice none 0 0,.slice none 0 0,.int .i64 0,.string ⟨#[]⟩,.slice none 0 0]),(Sb,[.int .i64 (kk:Int),.int .i64 A,.int .i64 B])] [([.sl 2 ((colsOf l).map colD)],[.slice bo k bp]),([.sl 1 (((colsOf l).map colT).map strD)],[.slice ao k cp])] []))
    case first =>
     refine wp_region_M_drew 24 (S:=fun W=>W.cell? ⟨Sb,0,none⟩=some (.int .i64 (kk:Int))∧W.cell? ⟨Sb,1,none⟩=some (.int .i64 A)∧W.cell? ⟨Sb,2,none⟩=some (.int .i64 B)) (by kernel_rfl) (by exact ⟨H.out.drew.cellS (i:=1) rfl rfl,H.out.drew.cellS (i:=1) rfl rfl,H.out.drew.cellS (i:=1) rfl rfl⟩) (fun hHeld=>?_)
     replace H:=Lib.hid H.out.drew
     refine tkM 0 rfl (by kernel_rfl) hHeld (Or.inl ⟨by rfl,by intro w hSw;(try dsimp only at hSw);go_simp<;>with_reducible rfl⟩) ?_
     try simp only [Array.reduceGetElem,zs]
     refine tkM 1 rfl (by kernel_rfl) hHeld (Or.inl ⟨by rfl,by intro w hSw;(try dsimp only at hSw);go_simp<;>with_reducible rfl⟩) ?_
     try simp only [Array.reduceGetElem,zs]
     refine tkM 2 rfl (by kernel_rfl) hHeld (Or.inl ⟨by rfl,by intro w hSw;(try dsimp only at hSw);go_simp<;>with_reducible rfl⟩) ?_
     try simp only [Array.reduceGetElem,zs]
     refine tkM 3 rfl (by kernel_rfl) hHeld (Or.inl ⟨by rfl,by intro w hSw;(try dsimp only at hSw);go_simp<;>with_reducible rfl⟩) ?_
     try simp only [Array.reduceGetElem,zs]
     refine tkM 8 rfl (by kernel_rfl) hHeld (Or.inl ⟨by rfl,by intro w hSw;(try dsimp only at hSw);go_simp<;>with_reducible rfl⟩) ?_
     try simp only [Array.reduceGetElem,zs]
     refine tkM 9 rfl (by kernel_rfl) hHeld (Or.inl ⟨by rfl,by intro w hSw;(try dsimp only at hSw);go_simp<;>with_reducible rfl⟩) ?_
     try simp only [Array.reduceGetElem,zs]
     refine tkM 14 rfl (by kernel_rfl) hHeld (Or.inl ⟨by rfl,by intro w hSw;(try dsimp only at hSw);go_simp<;>with_reducible rfl⟩) ?_
     try simp only [Array.reduceGetElem,zs]
     refine tkM 15 rfl (by kernel_rfl) hHeld (Or.inl ⟨by rfl,by intro w hSw;(try dsimp only at hSw);go_simp<;>with_reducible rfl⟩) ?_
     try simp only [Array.reduceGetElem,zs]
     refine tkM 19 rfl (by kernel_rfl) hHeld (Or.inl ⟨by rfl,by intro w hSw;(try dsimp only at hSw);go_simp<;>with_reducible rfl⟩) ?_
     try simp only [Array.reduceGetElem,zs]
     refine tkM 20 rfl (by kernel_rfl) hHeld (Or.inl ⟨by rfl,by intro w hSw;(try dsimp only at hSw);go_simp<;>with_reducible rfl⟩) ?_
     try simp only [Array.reduceGetElem,zs]
     refine wpAnyM_ready (rs:=[4,7]) (by kernel_rfl) (by simp) ?_
     refine AllReadyM.cons rfl (fun K hK=>?_) (AllReadyM.cons rfl (fun K hK=>?_) AllReadyM.nil)
     ·go_simp
      go_at_call 35
      (with_reducible (refine (HJ.out _ _ _ _ (repOf (H.out.rowAt (j:=1) rfl))).mono ?_))
      rintro e wc ⟨rfl,hb⟩
      have H2:=H.out.below hb
      clear hb
      refine hK.out _ _ ?_ (fun hHeld2=>?_)
      ·exact ⟨H2.cellS (i:=1) rfl rfl,H2.cellS (i:=1) rfl rfl,H2.cellS (i:=1) rfl rfl⟩
      clear hK K hHeld
      have hHeld:=hHeld2
      clear hHeld2
      clear H
      have H:=Lib.hid H2
      clear H2
      try simp only [Array.reduceGetElem,zs]
      refine tkM 5 rfl (by kernel_rfl) hHeld (Or.inl ⟨by rfl,by intro w hSw;(try dsimp only at hSw);go_simp<;>with_reducible rfl⟩) ?_
      try simp only [Array.reduceGetElem,zs]
      refine tkM 6 rfl (by kernel_rfl) hHeld (Or.inl ⟨by rfl,by intro w hSw;(try dsimp only at hSw);go_simp<;>with_reducible rfl⟩) ?_
      try simp only [Array.reduceGetElem,zs]
      refine wpAnyM_ready (rs:=[7,16]) (by kernel_rfl) (by simp) ?_
      refine AllReadyM.cons rfl (fun K hK=>?_) (AllReadyM.cons rfl (fun K hK=>?_) AllReadyM.nil)
      ·rw [if_pos (by rfl)]
       refine H.out.o_lit rfl Tryz.underlying48 iStr2_ [.string ⟨#[]⟩,.string ⟨#[104,111,117,114,108,121]⟩,.string ⟨#[100,97,105,108,121]⟩,.string ⟨#[119,101,101,107,108,121]⟩,.string ⟨#[109,111,110,116,104,108,121]⟩,.string ⟨#[115,116,97,116,105,99]⟩] rfl rfl rfl (by decide) (by decide) (by decide) (all_k rfl) rfl (fun wl Lb _ H2=>?_)
       refine hK.out _ _ ?_ (fun hHeld2=>?_)
       ·exact ⟨H2.cellS (i:=2) rfl rfl,H2.cellS (i:=2) rfl rfl,H2.cellS (i:=2) rfl rfl⟩
       clear hK K hHeld
       have hHeld:=hHeld2
       clear hHeld2
       clear H
       have H:=Lib.hid H2
       clear H2
       refine wpAnyM_imp (S2:=fun W=>W.cell? ⟨Lb,kk,none⟩=some (.string KS)∧W.cell? ⟨Sb,0,none⟩=some (.int .i64 (kk:Int))∧W.cell? ⟨Sb,1,none⟩=some (.int .i64 A)∧W.cell? ⟨Sb,2,none⟩=some (.int .i64 B)) (fun _ h=>h.2) _ _ _ _ ?_
       replace hHeld:=And.intro (H.out.cellS (i:=0) rfl HKS.out) hHeld
       try simp only [Array.reduceGetElem,zs]
       refine tkM 10 rfl (by kernel_rfl) hHeld (Or.inl ⟨by rfl,by intro w hSw;(try dsimp only at hSw);go_simp<;>with_reducible rfl⟩) ?_
       try simp only [Array.reduceGetElem,zs]
       refine tkM 11 rfl (by kernel_rfl) hHeld (Or.inl ⟨by rfl,by intro w hSw;(try dsimp only at hSw);go_simp<;>with_reducible rfl⟩) ?_
       try simp only [Array.reduceGetElem,zs]
       refine tkM 12 rfl (by kernel_rfl) hHeld (Or.inl ⟨by rfl,by intro w hSw;(try dsimp only at hSw);go_simp<;>with_reducible rfl⟩) ?_
       try simp only [Array.reduceGetElem,zs]
       refine tkM 13 rfl (by kernel_rfl) hHeld (Or.inl ⟨by rfl,by intro w hSw;(try dsimp only at hSw);go_simp<;>with_reducible rfl⟩) ?_
       try simp only [Array.reduceGetElem,zs]
       refine wpAnyM_ready (rs:=[16]) (by kernel_rfl) (by simp) ?_
       refine AllReadyM.cons rfl (fun K hK=>?_) AllReadyM.nil
       go_simp
       go_at_call 28
       (with_reducible (refine (HNA.out _).mono ?_))
       rintro e wc ⟨rfl,hb⟩
       have H2:=H.out.below hb
       clear hb
       refine hK.out _ _ ?_ (fun hHeld2=>?_)
       ·exact ⟨H2.cellS (i:=0) rfl HKS.out,H2.cellS (i:=2) rfl rfl,H2.cellS (i:=2) rfl rfl,H2.cellS (i:=2) rfl rfl⟩
       clear hK K hHeld
       have hHeld:=hHeld2
       clear hHeld2
       clear H
       have H:=Lib.hid H2
       clear H2
       try simp only [Array.reduceGetElem,zs]
       refine tkM 17 rfl (by kernel_rfl) hHeld (Or.inl ⟨by rfl,by intro w hSw;(try dsimp only at hSw);go_simp<;>with_reducible rfl⟩) ?_
       try simp only [Array.reduceGetElem,zs]
       refine tkM 18 rfl (by kernel_rfl) hHeld (Or.inl ⟨by rfl,by intro w hSw;(try dsimp only at hSw);go_simp<;>with_reducible rfl⟩) ?_
       try simp only [Array.reduceGetElem,zs]
       refine wpAnyM_ready (rs:=[21]) (by kernel_rfl) (by simp) ?_
       refine AllReadyM.cons rfl (fun K hK=>?_) AllReadyM.nil
       go_simp
       go_at_call 28
       (with_reducible (refine (HNB.out _).mono ?_))
       rintro e wc ⟨rfl,hb⟩
       have H2:=H.out.below hb
       clear hb
       refine hK.out _ _ ?_ (fun hHeld2=>?_)
       ·exact ⟨H2.cellS (i:=0) rfl HKS.out,H2.cellS (i:=2) rfl rfl,H2.cellS (i:=2) rfl rfl,H2.cellS (i:=2) rfl rfl⟩
       clear hK K hHeld
       have hHeld:=hHeld2
       clear hHeld2
       clear H
       have H:=Lib.hid H2
       clear H2
       try simp only [Array.reduceGetElem,zs]
       refine tkM 22 rfl (by kernel_rfl) hHeld (Or.inl ⟨by rfl,by intro w hSw;(try dsimp only at hSw);go_simp<;>with_reducible rfl⟩) ?_
       try simp only [Array.reduceGetElem,zs]
       refine tkM 23 rfl (by kernel_rfl) hHeld (Or.inl ⟨by rfl,by intro w hSw;(try dsimp only at hSw);go_simp<;>with_reducible rfl⟩) ?_
       try simp only [Array.reduceGetElem,zs]
       refine wpAnyM_ready (rs:=[24]) (by kernel_rfl) (by simp) ?_
       refine AllReadyM.last rfl (by kernel_rfl) (fun K hK=>?_) AllReadyM.nil
       go_simp
       refine hK.out _ _ ?_
       clear hK K
       try simp only [Array.reduceGetElem,zs]
       refine wpAnyM_done (by kernel_rfl) ?_ _
       go_wp2_with fail
       go_meet
       exact ⟨rfl,H.out.drop (.cons _ (List.Sublist.refl _))⟩
      ·go_simp
       go_at_call 28
       (with_reducible (refine (HNA.out _).mono ?_))
       rintro e wc ⟨rfl,hb⟩
       have H2:=H.out.below hb
       clear hb
       refine hK.out _ _ ?_ (fun hHeld2=>?_)
       ·exact ⟨H2.cellS (i:=1) rfl rfl,H2.cellS (i:=1) rfl rfl,H2.cellS (i:=1) rfl rfl⟩
       clear hK K hHeld
       have hHeld:=hHeld2
       clear hHeld2
       clear H
       have H:=Lib.hid H2
       clear H2
       try simp only [Array.reduceGetElem,zs]
       refine wpAnyM_ready (rs:=[7,21]) (by kernel_rfl) (by simp) ?_
       refine AllReadyM.cons rfl (fun K hK=>?_) (AllReadyM.cons rfl (fun K hK=>?_) AllReadyM.nil)
       ·rw [if_pos (by rfl)]
        refine H.out.o_lit rfl Tryz.underlying48 iStr2_ [.string ⟨#[]⟩,.string ⟨#[104,111,117,114,108,121]⟩,.string ⟨#[100,97,105,108,121]⟩,.string ⟨#[119,101,101,107,108,121]⟩,.string ⟨#[109,111,110,116,104,108,121]⟩,.string ⟨#[115,116,97,116,105,99]⟩] rfl rfl rfl (by decide) (by decide) (by decide) (all_k rfl) rfl (fun wl Lb _ H2=>?_)
        refine hK.out _ _ ?_ (fun hHeld2=>?_)
        ·exact ⟨H2.cellS (i:=2) rfl rfl,H2.cellS (i:=2) rfl rfl,H2.cellS (i:=2) rfl rfl⟩
        clear hK K hHeld
        have hHeld:=hHeld2
        clear hHeld2
        clear H
        have H:=Lib.hid H2
        clear H2
        refine wpAnyM_imp (S2:=fun W=>W.cell? ⟨Lb,kk,none⟩=some (.string KS)∧W.cell? ⟨Sb,0,none⟩=some (.int .i64 (kk:Int))∧W.cell? ⟨Sb,1,none⟩=some (.int .i64 A)∧W.cell? ⟨Sb,2,none⟩=some (.int .i64 B)) (fun _ h=>h.2) _ _ _ _ ?_
        replace hHeld:=And.intro (H.out.cellS (i:=0) rfl HKS.out) hHeld
        try simp only [Array.reduceGetElem,zs]
        refine tkM 10 rfl (by kernel_rfl) hHeld (Or.inl ⟨by rfl,by intro w hSw;(try dsimp only at hSw);go_simp<;>with_reducible rfl⟩) ?_
        try simp only [Array.reduceGetElem,zs]
        refine tkM 11 rfl (by kernel_rfl) hHeld (Or.inl ⟨by rfl,by intro w hSw;(try dsimp only at hSw);go_simp<;>with_reducible rfl⟩) ?_
        try simp only [Array.reduceGetElem,zs]
        refine tkM 12 rfl (by kernel_rfl) hHeld (Or.inl ⟨by rfl,by intro w hSw;(try dsimp only at hSw);go_simp<;>with_reducible rfl⟩) ?_
        try simp only [Array.reduceGetElem,zs]
        refine tkM 13 rfl (by kernel_rfl) hHeld (Or.inl ⟨by rfl,by intro w hSw;(try dsimp only at hSw);go_simp<;>with_reducible rfl⟩) ?_
        try simp only [Array.reduceGetElem,zs]
        refine tkM 17 rfl (by kernel_rfl) hHeld (Or.inl ⟨by rfl,by intro w hSw;(try dsimp only at hSw);go_simp<;>with_reducible rfl⟩) ?_
        try simp only [Array.reduceGetElem,zs]
        refine tkM 18 rfl (by kernel_rfl) hHeld (Or.inl ⟨by rfl,by intro w hSw;(try dsimp only at hSw);go_simp<;>with_reducible rfl⟩) ?_
        try simp only [Array.reduceGetElem,zs]
        refine wpAnyM_ready (rs:=[21]) (by kernel_rfl) (by simp) ?_
        refine AllReadyM.cons rfl (fun K hK=>?_) AllReadyM.nil
        go_simp
        go_at_call 28
        (with_reducible (refine (HNB.out _).mono ?_))
        rintro e wc ⟨rfl,hb⟩
        have H2:=H.out.below hb
        clear hb
        refine hK.out _ _ ?_ (fun hHeld2=>?_)
        ·exact ⟨H2.cellS (i:=0) rfl HKS.out,H2.cellS (i:=2) rfl rfl,H2.cellS (i:=2) rfl rfl,H2.cellS (i:=2) rfl rfl⟩
        clear hK K hHeld
        have hHeld:=hHeld2
        clear hHeld2
        clear H
        have H:=Lib.hid H2
        clear H2
        try simp only [Array.reduceGetElem,zs]
        refine tkM 22 rfl (by kernel_rfl) hHeld (Or.inl ⟨by rfl,by intro w hSw;(try dsimp only at hSw);go_simp<;>with_reducible rfl⟩) ?_
        try simp only [Array.reduceGetElem,zs]
        refine tkM 23 rfl (by kernel_rfl) hHeld (Or.inl ⟨by rfl,by intro w hSw;(try dsimp only at hSw);go_simp<;>with_reducible rfl⟩) ?_
        try simp only [Array.reduceGetElem,zs]
        refine wpAnyM_ready (rs:=[24]) (by kernel_rfl) (by simp) ?_
        refine AllReadyM.last rfl (by kernel_rfl) (fun K hK=>?_) AllReadyM.nil
        go_simp
        refine hK.out _ _ ?_
        clear hK K
        try simp only [Array.reduceGetElem,zs]
        refine wpAnyM_done (by kernel_rfl) ?_ _
        go_wp2_with fail
        go_meet
        exact ⟨rfl,H.out.drop (.cons _ (List.Sublist.refl _))⟩
       ·go_simp
        go_at_call 28
        (with_reducible (refine (HNB.out _).mono ?_))
        rintro e wc ⟨rfl,hb⟩
        have H2:=H.out.below hb
        clear hb
        refine hK.out _ _ ?_ (fun hHeld2=>?_)
        ·exact ⟨H2.cellS (i:=1) rfl rfl,H2.cellS (i:=1) rfl rfl,H2.cellS (i:=1) rfl rfl⟩
        clear hK K hHeld
        have hHeld:=hHeld2
        clear hHeld2
        clear H
        have H:=Lib.hid H2
        clear H2
        try simp only [Array.reduceGetElem,zs]
        refine wpAnyM_ready (rs:=[7]) (by kernel_rfl) (by simp) ?_
        refine AllReadyM.cons rfl (fun K hK=>?_) AllReadyM.nil
        rw [if_pos (by rfl)]
        refine H.out.o_lit rfl Tryz.underlying48 iStr2_ [.string ⟨#[]⟩,.string ⟨#[104,111,117,114,108,121]⟩,.string ⟨#[100,97,105,108,121]⟩,.string ⟨#[119,101,101,107,108,121]⟩,.string ⟨#[109,111,110,116,104,108,121]⟩,.string ⟨#[115,116,97,116,105,99]⟩] rfl rfl rfl (by decide) (by decide) (by decide) (all_k rfl) rfl (fun wl Lb _ H2=>?_)
        refine hK.out _ _ ?_ (fun hHeld2=>?_)
        ·exact ⟨H2.cellS (i:=2) rfl rfl,H2.cellS (i:=2) rfl rfl,H2.cellS (i:=2) rfl rfl⟩
        clear hK K hHeld
        have hHeld:=hHeld2
        clear hHeld2
        clear H
        have H:=Lib.hid H2
        clear H2
        refine wpAnyM_imp (S2:=fun W=>W.cell? ⟨Lb,kk,none⟩=some (.string KS)∧W.cell? ⟨Sb,0,none⟩=some (.int .i64 (kk:Int))∧W.cell? ⟨Sb,1,none⟩=some (.int .i64 A)∧W.cell? ⟨Sb,2,none⟩=some (.int .i64 B)) (fun _ h=>h.2) _ _ _ _ ?_
        replace hHeld:=And.intro (H.out.cellS (i:=0) rfl HKS.out) hHeld
        try simp only [Array.reduceGetElem,zs]
        refine tkM 10 rfl (by kernel_rfl) hHeld (Or.inl ⟨by rfl,by intro w hSw;(try dsimp only at hSw);go_simp<;>with_reducible rfl⟩) ?_
        try simp only [Array.reduceGetElem,zs]
        refine tkM 11 rfl (by kernel_rfl) hHeld (Or.inl ⟨by rfl,by intro w hSw;(try dsimp only at hSw);go_simp<;>with_reducible rfl⟩) ?_
        try simp only [Array.reduceGetElem,zs]
        refine tkM 12 rfl (by kernel_rfl) hHeld (Or.inl ⟨by rfl,by intro w hSw;(try dsimp only at hSw);go_simp<;>with_reducible rfl⟩) ?_
        try simp only [Array.reduceGetElem,zs]
        refine tkM 13 rfl (by kernel_rfl) hHeld (Or.inl ⟨by rfl,by intro w hSw;(try dsimp only at hSw);go_simp<;>with_reducible rfl⟩) ?_
        try simp only [Array.reduceGetElem,zs]
        refine tkM 17 rfl (by kernel_rfl) hHeld (Or.inl ⟨by rfl,by intro w hSw;(try dsimp only at hSw);go_simp<;>with_reducible rfl⟩) ?_
        try simp only [Array.reduceGetElem,zs]
        refine tkM 18 rfl (by kernel_rfl) hHeld (Or.inl ⟨by rfl,by intro w hSw;(try dsimp only at hSw);go_simp<;>with_reducible rfl⟩) ?_
        try simp only [Array.reduceGetElem,zs]
        refine tkM 22 rfl (by kernel_rfl) hHeld (Or.inl ⟨by rfl,by intro w hSw;(try dsimp only at hSw);go_simp<;>with_reducible rfl⟩) ?_
        try simp only [Array.reduceGetElem,zs]
        refine tkM 23 rfl (by kernel_rfl) hHeld (Or.inl ⟨by rfl,by intro w hSw;(try dsimp only at hSw);go_simp<;>with_reducible rfl⟩) ?_
        try simp only [Array.reduceGetElem,zs]
        refine wpAnyM_ready (rs:=[24]) (by kernel_rfl) (by simp) ?_
        refine AllReadyM.last rfl (by kernel_rfl) (fun K hK=>?_) AllReadyM.nil
        go_simp
        refine hK.out _ _ ?_
        clear hK K
        try simp only [Array.reduceGetElem,zs]
        refine wpAnyM_done (by kernel_rfl) ?_ _
        go_wp2_with fail
        go_meet
        exact ⟨rfl,H.out.drop (.cons _ (List.Sublist.refl _))⟩
     ·rw [if_pos (by rfl)]
      refine H.out.o_lit rfl Tryz.underlying48 iStr2_ [.string ⟨#[]⟩,.string ⟨#[104,111,117,114,108,121]⟩,.string ⟨#[100,97,105,108,121]⟩,.string ⟨#[119,101,101,107,108,121]⟩,.string ⟨#[109,111,110,116,104,108,121]⟩,.string ⟨#[115,116,97,116,105,99]⟩] rfl rfl rfl (by decide) (by decide) (by decide) (all_k rfl) rfl (fun wl Lb _ H2=>?_)
      refine hK.out _ _ ?_ (fun hHeld2=>?_)
      ·exact ⟨H2.cellS (i:=2) rfl rfl,H2.cellS (i:=2) rfl rfl,H2.cellS (i:=2) rfl rfl⟩
      clear hK K hHeld
      have hHeld:=hHeld2
      clear hHeld2
      clear H
      have H:=Lib.hid H2
      clear H2
      refine wpAnyM_imp (S2:=fun W=>W.cell? ⟨Lb,kk,none⟩=some (.string KS)∧W.cell? ⟨Sb,0,none⟩=some (.int .i64 (kk:Int))∧W.cell? ⟨Sb,1,none⟩=some (.int .i64 A)∧W.cell? ⟨Sb,2,none⟩=some (.int .i64 B)) (fun _ h=>h.2) _ _ _ _ ?_
      replace hHeld:=And.intro (H.out.cellS (i:=0) rfl HKS.out) hHeld
      try simp only [Array.reduceGetElem,zs]
      refine tkM 10 rfl (by kernel_rfl) hHeld (Or.inl ⟨by rfl,by intro w hSw;(try dsimp only at hSw);go_simp<;>with_reducible rfl⟩) ?_
      try simp only [Array.reduceGetElem,zs]
      refine tkM 11 rfl (by kernel_rfl) hHeld (Or.inl ⟨by rfl,by intro w hSw;(try dsimp only at hSw);go_simp<;>with_reducible rfl⟩) ?_
      try simp only [Array.reduceGetElem,zs]
      refine wpAnyM_ready (rs:=[4]) (by kernel_rfl) (by simp) ?_
      refine AllReadyM.cons rfl (fun K hK=>?_) AllReadyM.nil
      go_simp
      go_at_call 35
      (with_reducible (refine (HJ.out _ _ _ _ (repOf (H.out.rowAt (j:=1) rfl))).mono ?_))
      rintro e wc ⟨rfl,hb⟩
      have H2:=H.out.below hb
      clear hb
      refine hK.out _ _ ?_ (fun hHeld2=>?_)
      ·exact ⟨H2.cellS (i:=0) rfl HKS.out,H2.cellS (i:=2) rfl rfl,H2.cellS (i:=2) rfl rfl,H2.cellS (i:=2) rfl rfl⟩
      clear hK K hHeld
      have hHeld:=hHeld2
      clear hHeld2
      clear H
      have H:=Lib.hid H2
      clear H2
      try simp only [Array.reduceGetElem,zs]
      refine tkM 5 rfl (by kernel_rfl) hHeld (Or.inl ⟨by rfl,by intro w hSw;(try dsimp only at hSw);go_simp<;>with_reducible rfl⟩) ?_
      try simp only [Array.reduceGetElem,zs]
      refine tkM 6 rfl (by kernel_rfl) hHeld (Or.inl ⟨by rfl,by intro w hSw;(try dsimp only at hSw);go_simp<;>with_reducible rfl⟩) ?_
      try simp only [Array.reduceGetElem,zs]
      refine tkM 12 rfl (by kernel_rfl) hHeld (Or.inl ⟨by rfl,by intro w hSw;(try dsimp only at hSw);go_simp<;>with_reducible rfl⟩) ?_
      try simp only [Array.reduceGetElem,zs]
      refine tkM 13 rfl (by kernel_rfl) hHeld (Or.inl ⟨by rfl,by intro w hSw;(try dsimp only at hSw);go_simp<;>with_reducible rfl⟩) ?_
      try simp only [Array.reduceGetElem,zs]
      refine wpAnyM_ready (rs:=[16]) (by kernel_rfl) (by simp) ?_
      refine AllReadyM.cons rfl (fun K hK=>?_) AllReadyM.nil
      go_simp
      go_at_call 28
      (with_reducible (refine (HNA.out _).mono ?_))
      rintro e wc ⟨rfl,hb⟩
      have H2:=H.out.below hb
      clear hb
      refine hK.out _ _ ?_ (fun hHeld2=>?_)
      ·exact ⟨H2.cellS (i:=0) rfl HKS.out,H2.cellS (i:=2) rfl rfl,H2.cellS (i:=2) rfl rfl,H2.cellS (i:=2) rfl rfl⟩
      clear hK K hHeld
      have hHeld:=hHeld2
      clear hHeld2
      clear H
      have H:=Lib.hid H2
      clear H2
      try simp only [Array.reduceGetElem,zs]
      refine tkM 17 rfl (by kernel_rfl) hHeld (Or.inl ⟨by rfl,by intro w hSw;(try dsimp only at hSw);go_simp<;>with_reducible rfl⟩) ?_
      try simp only [Array.reduceGetElem,zs]
      refine tkM 18 rfl (by kernel_rfl) hHeld (Or.inl ⟨by rfl,by intro w hSw;(try dsimp only at hSw);go_simp<;>with_reducible rfl⟩) ?_
      try simp only [Array.reduceGetElem,zs]
      refine wpAnyM_ready (rs:=[21]) (by kernel_rfl) (by simp) ?_
      refine AllReadyM.cons rfl (fun K hK=>?_) AllReadyM.nil
      go_simp
      go_at_call 28
      (with_reducible (refine (HNB.out _).mono ?_))
      rintro e wc ⟨rfl,hb⟩
      have H2:=H.out.below hb
      clear hb
      refine hK.out _ _ ?_ (fun hHeld2=>?_)
      ·exact ⟨H2.cellS (i:=0) rfl HKS.out,H2.cellS (i:=2) rfl rfl,H2.cellS (i:=2) rfl rfl,H2.cellS (i:=2) rfl rfl⟩
      clear hK K hHeld
      have hHeld:=hHeld2
      clear hHeld2
      clear H
      have H:=Lib.hid H2
      clear H2
      try simp only [Array.reduceGetElem,zs]
      refine tkM 22 rfl (by kernel_rfl) hHeld (Or.inl ⟨by rfl,by intro w hSw;(try dsimp only at hSw);go_simp<;>with_reducible rfl⟩) ?_
      try simp only [Array.reduceGetElem,zs]
      refine tkM 23 rfl (by kernel_rfl) hHeld (Or.inl ⟨by rfl,by intro w hSw;(try dsimp only at hSw);go_simp<;>with_reducible rfl⟩) ?_
      try simp only [Array.reduceGetElem,zs]
      refine wpAnyM_ready (rs:=[24]) (by kernel_rfl) (by simp) ?_
      refine AllReadyM.last rfl (by kernel_rfl) (fun K hK=>?_) AllReadyM.nil
      go_simp
      refine hK.out _ _ ?_
      clear hK K
      try simp only [Array.reduceGetElem,zs]
      refine wpAnyM_done (by kernel_rfl) ?_ _
      go_wp2_with fail
      go_meet
      exact ⟨rfl,H.out.drop (.cons _ (List.Sublist.refl _))⟩
    case rest =>
    obtain ⟨rfl,H2⟩:=hcut
    clear H
    have H:=H2
    clear H2
    go_wp2_with (first|(refine St.w_load (ty:=88) H.out (by rfl) rfl rfl 0 rfl uDf_ sDf_ ?_)|(go_at_call 36;(with_reducible (refine (HO.out _ _ _ _ (repOf (H.out.rowAt (j:=0) rfl)) (st_bel H.out)).mono ?_));rintro e wc ⟨rfl,hb9⟩;have H2:=H.out.below hb9;clear hb9;replace H:=Lib.hid H2;clear H2)|(go_at_call 23;(with_reducible (refine (HAW.out _ (st_bel H.out)).mono ?_));rintro e wc ⟨rfl,hb9⟩;have H2:=H.out.below hb9;clear hb9;replace H:=Lib.hid H2;clear H2))
    go_ret
    exact ⟨rfl,st_bel H.out⟩
 ·have hall':∀ (b1 b2 b3 b4:Bool),decide (K < 1)=b1→decide (5 < K)=b2→decide (A < 0)=b3→decide (B < 0)=b4→¬ (qn=true∧qs=true∧b1=false∧b2=false∧b3=false∧b4=false):=fun b1 b2 b3 b4 e1 e2 e3 e4 h=>by
   obtain ⟨h1,h2,rfl,rfl,rfl,rfl⟩:=h
   rw [decide_eq_false_iff_not] at e1 e2 e3 e4
   exact hall ⟨h1,h2,⟨by omega,by omega⟩,by omega,by omega⟩
  obtain ⟨b1,g1⟩:∃ b,decide (K < 1)=b:=⟨_,rfl⟩
  obtain ⟨b2,g2⟩:∃ b,decide (5 < K)=b:=⟨_,rfl⟩
  obtain ⟨b3,g3⟩:∃ b,decide (A < 0)=b:=⟨_,rfl⟩
  obtain ⟨b4,g4⟩:∃ b,decide (B < 0)=b:=⟨_,rfl⟩
  have HNO:=Lib.hid (hall' b1 b2 b3 b4 g1 g2 g3 g4)
  rw [hL,hN]
  rw [hL] at HWS
  clear hE hA hn hls hqn hqs hN hL HRA hall hall' hA2 hB2
  have hor:qn=false∨(qn=true∧qs=false)∨(qn=true∧qs=true∧b1=true)∨(qn=true∧qs=true∧b1=false∧b2=true)∨(qn=true∧qs=true∧b1=false∧b2=false∧b3=true)∨(qn=true∧qs=true∧b1=false∧b2=false∧b3=false∧b4=true):=by
   have h:=HNO.out
   revert h
   cases qn<;>cases qs<;>cases b1<;>cases b2<;>cases b3<;>cases b4<;>decide
  clear HNO
  rcases hor with rfl|⟨rfl,rfl⟩|⟨rfl,rfl,rfl⟩|⟨rfl,rfl,rfl,rfl⟩|⟨rfl,rfl,rfl,rfl,rfl⟩|⟨rfl,rfl,rfl,rfl,rfl,rfl⟩
  all_goals
   go_enter Tryz.func7,Tryz.ntmps7
   go_wp2_with (first|(refine St.w_box (vs:=[.int .i64 K,.int .i64 A,.int .i64 B]) H.out (by rfl) rfl rfl rfl ?_;intro wn Sb _ _ H2;replace H:=Lib.hid H2;clear H2)|(go_at_call 21;(with_reducible (refine (HW.out _ (st_bel H.out)).mono ?_));rintro e wc ⟨rfl,hb9⟩;have H2:=H.out.below hb9;clear hb9;replace H:=Lib.hid H2;clear H2)|(go_at_call 22;(with_reducible (refine (HWS.out _ (st_bel H.out)).mono ?_));rintro e wc ⟨rfl,hb9⟩;have H2:=H.out.below hb9;clear hb9;replace H:=Lib.hid H2;clear H2)|(refine St.w_load1 (ty:=3) H.out (by rfl) rfl rfl 0 rfl rfl uInt_ ?_)|(go_at_call 23;(with_reducible (refine (HAW.out _ (st_bel H.out)).mono ?_));rintro e wc ⟨rfl,hb9⟩;have H2:=H.out.below hb9;clear hb9;replace H:=Lib.hid H2;clear H2))
   go_ret
   exact ⟨rfl,st_bel H.out⟩
end Go.Proofs.YtonkjhmkppeagaaGreatDoor.Pz
