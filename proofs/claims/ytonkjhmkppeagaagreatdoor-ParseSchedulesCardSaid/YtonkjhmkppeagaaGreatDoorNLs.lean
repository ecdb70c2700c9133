/- Walks of layer 14's laws: schedules. -/
import Derived.Test.YtonkjhmkppeagaaGreatDoorNL14
import Derived.Test.YtonkjhmkppeagaaGreatDoorNAw
import Derived.Test.YtonkjhmkppeagaaGreatDoorNNm
import Derived.Test.YtonkjhmkppeagaaGreatDoorNRfA
set_option linter.unusedVariables false
set_option linter.unusedSimpArgs false
namespace Go.Proofs.YtonkjhmkppeagaaGreatDoor.Pz
open Go.RowKit Go Go.Sort Ba Lx
theorem cut_last (l:Str) (c:UInt8):(⟨(l++[c]).toArray⟩:ByteArray).extract 0 l.length=⟨l.toArray⟩:=by
 apply ByteArray.ext
 rw [ByteArray.data_extract]
 show (l++[c]).toArray.extract 0 l.length=l.toArray
 apply Array.toList_inj.1
 rw [Array.toList_extract]
 simp [List.extract]
theorem one_law_any (t:Str) (d:Df) (h:parseOf (t++[59])=([d],t.length+1,0)∧parseOf t=([],t.length,51)) (hl:t.length≤10000) (T:ByteArray) (hT:T=⟨(t++[59]).toArray⟩) (s0 s1 s2:Value) (ps:List Value) (w:World) (ok:Nat→Prop) (hA:DfAt w ok d s0 s1 s2 ps) (hE:EnvL w) :
 Calls Tryz.prog 36 #[.string T,dfV d s0 s1 s2 ps] w (EqTo w true):=by
 subst hT
 have hsz:(⟨(t++[59]).toArray⟩:ByteArray).size=t.length+1:=by rw [szm,List.length_append];rfl
 refine oneD_any _ ⟨t.toArray⟩ d ?_ ?_ ?_ ?_ ?_ s0 s1 s2 ps w ok hA hE
 ·rw [hsz];exact h.1
 ·rw [hsz,Nat.add_sub_cancel];exact cut_last t 59
 ·rw [szm];exact h.2
 ·rw [hsz,szm]
 ·rw [hsz];omega
theorem right_tok {C:ByteArray} (h:Va.rightB 2 0 C=true):TokOk ⟨3,C.data.toList,0,0⟩∧C.data.toList.length≤64∧Va.showL 2 0 C=Va.quotedL C.data.toList:=by
 have h64:=(Va.right_text h).2
 have hp:Va.plainB C=true:=by
  unfold Va.rightB at h
  rw [if_neg (by decide),if_neg (by decide),if_pos rfl] at h
  simpa using h
 refine ⟨.inr (.inr (.inl ⟨rfl,rfl,h64,?_⟩)),h64,?_⟩
 ·intro c hcm
  unfold Va.plainB at hp
  rw [Bool.and_eq_true,List.all_eq_true] at hp
  have:=hp.1 c hcm
  unfold Va.okByte at this
  rw [decide_eq_true_eq] at this
  exact ⟨by omega,by omega⟩
 ·unfold Va.showL
  rw [if_pos h,if_neg (by decide),if_neg (by decide)]
set_option maxRecDepth 100000 in
set_option maxHeartbeats 3200000 in
theorem schedules_law (name cron:ByteArray) (ms:List Str) (hn:name.size≤9223372036854775807) (hc:cron.size≤9223372036854775807) (hms:∀ s ∈ ms,s.length≤9223372036854775807) (sa:Option Addr) (ca:Nat) (w:World) (ok:Nat→Prop) (hA:Rep w ok (.sl 1 (ms.map strD)) (.slice sa ms.length ca)) (hE:EnvL w) :
 Calls Tryz.prog 9 #[.string name,.string cron,.slice sa ms.length ca] w (EqTo w true):=by
 have HAW:Hid (∀ W,Below w.heap.size w W→Calls Tryz.prog 23 #[] W (EqTo W true)):=fun W hW=>awakeQ_any W (hE.below hW)
 have HRA:=Lib.hid (fun W (hW:Below w.heap.size w W)=>hA.kept (S:=fun _=>False) (Kept.of_below hW) (fun _ _ _ x=>x))
 obtain ⟨n,rfl⟩:∃ n:Str,name=⟨n.toArray⟩:=⟨name.data.toList,by rw [Array.toArray_toList]⟩
 obtain ⟨qn,hqn⟩:∃ q,wordQ n=q:=⟨_,rfl⟩
 obtain ⟨qs,hqs⟩:∃ q,wordsQ ms=q:=⟨_,rfl⟩
 obtain ⟨qr,hqr⟩:∃ q,Va.rightB 2 0 cron=q:=⟨_,rfl⟩
 obtain ⟨N,hN⟩:∃ N:ByteArray,(⟨n.toArray⟩:ByteArray)=N:=⟨_,rfl⟩
 have HW:Hid (∀ W,Below w.heap.size w W→Calls Tryz.prog 21 #[.string N] W (EqTo W qn)):=fun W hW=>by
  have:=word_any n W (by rw [← szm];exact hn)
  rw [hqn,hN] at this
  exact this
 have HWS:Hid (∀ W,Below w.heap.size w W→Calls Tryz.prog 22 #[.slice sa ms.length ca] W (EqTo W qs)):=fun W hW=>by
  have:=wordsB_any ms hms sa ca W ok (HRA.out W hW)
  rw [hqs] at this
  exact this
 have HTX:Hid (∀ W,Below w.heap.size w W→Calls Tryz.prog 37 #[.string cron] W fun e w'=>e=.returned (.agg #[.int .i64 2,.int .i64 0,.string cron])∧Below W.heap.size W w'):=fun W _=>Va.text_any cron W
 have HR:Hid (∀ W,Below w.heap.size w W→Calls Tryz.prog 38 #[.agg #[.int .i64 2,.int .i64 0,.string cron]] W (EqTo W qr)):=fun W _=>Va.right_is 2 0 cron qr W hc hqr
 have H:=Lib.hid (St.start (S:=fun _=>False) w)
 obtain ⟨L,hL⟩:∃ L,ms.length=L:=⟨_,rfl⟩
 by_cases hall:qn=true∧qs=true∧qr=true
 ·obtain ⟨rfl,rfl,rfl⟩:=hall
  have hnw:=wordQ_ok hqn
  have hmw:∀ m ∈ ms,WordOk m∧m.length≤16:=fun m hm=>by
   unfold wordsQ at hqs
   rw [Bool.and_eq_true,List.all_eq_true] at hqs
   have:=wordQ_ok (hqs.1 m hm)
   exact ⟨this.1,this.2.1⟩
  have hml:0 < ms.length∧ms.length≤20:=by
   unfold wordsQ at hqs
   rw [Bool.and_eq_true,decide_eq_true_eq] at hqs
   exact hqs.2
  obtain ⟨hct,hc64,hsh⟩:=right_tok hqr
  have hm0:ms≠[]:=fun e=>by rw [e] at hml;exact absurd hml.1 (by decide)
  have hlaw:=schedule_law hnw.1 hnw.2.1 hct hc64 hm0 hml.2 hmw
  obtain ⟨c,hcc⟩:∃ c:Str,cron.data.toList=c:=⟨_,rfl⟩
  rw [hcc] at hct hc64 hsh hlaw
  have hcron:(⟨c.toArray⟩:ByteArray)=cron:=by rw [← hcc,Array.toArray_toList]
  obtain ⟨V,hV⟩:∃ V:ByteArray,(⟨(Va.quotedL c).toArray⟩:ByteArray)=V:=⟨_,rfl⟩
  have HSH:Hid (∀ W,Below w.heap.size w W→Calls Tryz.prog 39 #[.agg #[.int .i64 2,.int .i64 0,.string cron]] W fun e w'=>e=.returned (.string V)∧Below W.heap.size W w'):=fun W hW=>by
   have:=Va.show_any 2 0 cron W hc (by decide) (by decide) (hE.below hW).pow
   rw [hsh,hV] at this
   exact this
  have hjb:=joinS_bd [32,44,32] 16 ms (fun x hx=>(hmw x hx).2)
  have hjb2:(joinS [32,44,32] ms).length≤1000:=by have e:([32,44,32]:Str).length=3:=rfl;rw [e] at hjb;omega
  obtain ⟨J,hJ⟩:∃ J:ByteArray,(⟨(joinS [32,44,32] ms).toArray⟩:ByteArray)=J:=⟨_,rfl⟩
  have HJ:Hid (∀ W,Below w.heap.size w W→Calls Tryz.prog 35 #[.slice sa L ca,.string ⟨#[32,44,32]⟩] W fun e w'=>e=.returned (.string J)∧Below W.heap.size W w'):=fun W hW=>by
   have:=joinL_any ms [32,44,32] (by omega) (by omega) (by decide) sa ca W ok (HRA.out W hW)
   unfold StrTo at this
   rw [hJ,hL] at this
   exact this
  have hNs:N.size≤1000:=by rw [← hN,szm];omega
  have hVs:V.size≤1000:=by rw [← hV,szm];have:=hlaw.2.2;unfold schT0 at this;simp only [List.length_append,List.length_cons] at this;omega
  have hJs:J.size≤1000:=by rw [← hJ,szm];exact hjb2
  have hTe:((((((⟨#[115,99,104,101,100,117,108,101,32]⟩:ByteArray)++N)++⟨#[32]⟩)++V)++⟨#[32,109,97,107,101,115,32]⟩)++J)++⟨#[32,59]⟩=⟨(schT0 n c ms++[59]).toArray⟩:=by
   rw [← hN,← hV,← hJ]
   show ((((((⟨([115,99,104,101,100,117,108,101,32]:Str).toArray⟩:ByteArray)++⟨n.toArray⟩)++⟨([32]:Str).toArray⟩)++⟨(Va.quotedL c).toArray⟩)++⟨([32,109,97,107,101,115,32]:Str).toArray⟩)++⟨(joinS [32,44,32] ms).toArray⟩)++⟨([32,59]:Str).toArray⟩=_
   rw [apm,apm,apm,apm,apm,apm]
   congr 2
   unfold schT0
   simp [sSchedule,sMakes]
  have HO:Hid (∀ W,Below w.heap.size w W→Calls Tryz.prog 36 #[.string (((((((⟨#[115,99,104,101,100,117,108,101,32]⟩:ByteArray)++N)++⟨#[32]⟩)++V)++⟨#[32,109,97,107,101,115,32]⟩)++J)++⟨#[32,59]⟩),.agg #[.int .i64 3,.string N,.slice none 0 0,.int .i64 0,.int .i64 0,.int .i64 0,.slice none 0 0,.int .i64 0,.string ⟨#[]⟩,.slice none 0 0,.int .i64 0,.string ⟨#[]⟩,.int .i64 0,.int .i64 0,.string ⟨#[]⟩,.string ⟨#[]⟩,.slice none 0 0,.slice none 0 0,.slice none 0 0,.slice none 0 0,.slice none 0 0,.slice none 0 0,.int .i64 0,.string cron,.slice sa L ca]] W (EqTo W true)):=fun W hW=>by
   have:=one_law_any (schT0 n c ms) ⟨3,n,[],zSc,[],zPl,c,ms⟩ ⟨hlaw.1,hlaw.2.1⟩ (by have:=hlaw.2.2;omega) _ hTe (.slice none 0 0) (.slice none 0 0) (.slice sa ms.length ca) _ W (fun _=>True) ⟨Rep.nil _ _ _,Rep.nil _ _ _,row_zPl W _,(HRA.out W hW).weak fun _ _ _=>trivial⟩ (hE.below hW)
   rw [hL] at this
   unfold dfV at this
   simp only [hN,hcron] at this
   exact this
  rw [hL,hN]
  rw [hL] at HWS
  clear hE hA hn hc hms hqn hqs hqr hN hL hnw hmw hml hct hc64 hsh hm0 hlaw hcc hcron hV hjb hjb2 hJ hTe HRA
  go_enter Tryz.func9,Tryz.ntmps9
  go_wp2_with (first|(go_at_call 37;(with_reducible (refine (HTX.out _ (st_bel H.out)).mono ?_));rintro e wc ⟨rfl,hb9⟩;have H2:=H.out.below hb9;clear hb9;replace H:=Lib.hid H2;clear H2)|(refine St.w_alloc (ty:=24) H.out (by rfl) rfl zVl_ rfl ?_;intro wn Cn _ _ H2;replace H:=Lib.hid H2;clear H2)|(first|(refine St.w_store (ty:=24) H.out (by rfl) rfl rfl rfl 0 rfl rfl rfl sVl_ (all_one rfl) ?_;intro wn _ _ H2;replace H:=Lib.hid H2;clear H2))|(go_at_call 21;(with_reducible (refine (HW.out _ (st_bel H.out)).mono ?_));rintro e wc ⟨rfl,hb9⟩;have H2:=H.out.below hb9;clear hb9;replace H:=Lib.hid H2;clear H2)|(go_at_call 22;(with_reducible (refine (HWS.out _ (st_bel H.out)).mono ?_));rintro e wc ⟨rfl,hb9⟩;have H2:=H.out.below hb9;clear hb9;replace H:=Lib.hid H2;clear H2)|(first|(refine St.w_load (ty:=24) H.out (by rfl) rfl rfl 0 rfl uVl_ sVl_ ?_))|(go_at_call 38;(with_reducible (refine (HR.out _ (st_bel H.out)).mono ?_));rintro e wc ⟨rfl,hb9⟩;have H2:=H.out.below hb9;clear hb9;replace H:=Lib.hid H2;clear H2)|(go_at_call 23;(with_reducible (refine (HAW.out _ (st_bel H.out)).mono ?_));rintro e wc ⟨rfl,hb9⟩;have H2:=H.out.below hb9;clear hb9;replace H:=Lib.hid H2;clear H2)|(go_at_call 39;(with_reducible (refine (HSH.out _ (st_bel H.out)).mono ?_));rintro e wc ⟨rfl,hb9⟩;have H2:=H.out.below hb9;clear hb9;replace H:=Lib.hid H2;clear H2)|(go_at_call 35;(with_reducible (refine (HJ.out _ (st_bel H.out)).mono ?_));rintro e wc ⟨rfl,hb9⟩;have H2:=H.out.below hb9;clear hb9;replace H:=Lib.hid H2;clear H2)|(go_at_call 36;(with_reducible (refine (HO.out _ (st_bel H.out)).mono ?_));rintro e wc ⟨rfl,hb9⟩;have H2:=H.out.below hb9;clear hb9;replace H:=Lib.hid H2;clear H2))
  go_ret
  exact ⟨rfl,st_bel H.out⟩
 ·rw [hL,hN]
  rw [hL] at HWS
  clear hE hA hn hc hms hqn hqs hqr hN hL HRA
  cases qn with
  | false =>
   go_enter Tryz.func9,Tryz.ntmps9
   go_wp2_with (first|(go_at_call 37;(with_reducible (refine (HTX.out _ (st_bel H.out)).mono ?_));rintro e wc ⟨rfl,hb9⟩;have H2:=H.out.below hb9;clear hb9;replace H:=Lib.hid H2;clear H2)|(refine St.w_alloc (ty:=24) H.out (by rfl) rfl zVl_ rfl ?_;intro wn Cn _ _ H2;replace H:=Lib.hid H2;clear H2)|(first|(refine St.w_store (ty:=24) H.out (by rfl) rfl rfl rfl 0 rfl rfl rfl sVl_ (all_one rfl) ?_;intro wn _ _ H2;replace H:=Lib.hid H2;clear H2))|(go_at_call 21;(with_reducible (refine (HW.out _ (st_bel H.out)).mono ?_));rintro e wc ⟨rfl,hb9⟩;have H2:=H.out.below hb9;clear hb9;replace H:=Lib.hid H2;clear H2)|(go_at_call 22;(with_reducible (refine (HWS.out _ (st_bel H.out)).mono ?_));rintro e wc ⟨rfl,hb9⟩;have H2:=H.out.below hb9;clear hb9;replace H:=Lib.hid H2;clear H2)|(first|(refine St.w_load (ty:=24) H.out (by rfl) rfl rfl 0 rfl uVl_ sVl_ ?_))|(go_at_call 38;(with_reducible (refine (HR.out _ (st_bel H.out)).mono ?_));rintro e wc ⟨rfl,hb9⟩;have H2:=H.out.below hb9;clear hb9;replace H:=Lib.hid H2;clear H2)|(go_at_call 23;(with_reducible (refine (HAW.out _ (st_bel H.out)).mono ?_));rintro e wc ⟨rfl,hb9⟩;have H2:=H.out.below hb9;clear hb9;replace H:=Lib.hid H2;clear H2))
   go_ret
   exact ⟨rfl,st_bel H.out⟩
  | true =>
   cases qs with
   | false =>
    go_enter Tryz.func9,Tryz.ntmps9
    go_wp2_with (first|(go_at_call 37;(with_reducible (refine (HTX.out _ (st_bel H.out)).mono ?_));rintro e wc ⟨rfl,hb9⟩;have H2:=H.out.below hb9;clear hb9;replace H:=Lib.hid H2;clear H2)|(refine St.w_alloc (ty:=24) H.out (by rfl) rfl zVl_ rfl ?_;intro wn Cn _ _ H2;replace H:=Lib.hid H2;clear H2)|(first|(refine St.w_store (ty:=24) H.out (by rfl) rfl rfl rfl 0 rfl rfl rfl sVl_ (all_one rfl) ?_;intro wn _ _ H2;replace H:=Lib.hid H2;clear H2))|(go_at_call 21;(with_reducible (refine (HW.out _ (st_bel H.out)).mono ?_));rintro e wc ⟨rfl,hb9⟩;have H2:=H.out.below hb9;clear hb9;replace H:=Lib.hid H2;clear H2)|(go_at_call 22;(with_reducible (refine (HWS.out _ (st_bel H.out)).mono ?_));rintro e wc ⟨rfl,hb9⟩;have H2:=H.out.below hb9;clear hb9;replace H:=Lib.hid H2;clear H2)|(first|(refine St.w_load (ty:=24) H.out (by rfl) rfl rfl 0 rfl uVl_ sVl_ ?_))|(go_at_call 38;(with_reducible (refine (HR.out _ (st_bel H.out)).mono ?_));rintro e wc ⟨rfl,hb9⟩;have H2:=H.out.below hb9;clear hb9;replace H:=Lib.hid H2;clear H2)|(go_at_call 23;(with_reducible (refine (HAW.out _ (st_bel H.out)).mono ?_));rintro e wc ⟨rfl,hb9⟩;have H2:=H.out.below hb9;clear hb9;replace H:=Lib.hid H2;clear H2))
    go_ret
    exact ⟨rfl,st_bel H.out⟩
   | true =>
    cases qr with
    | true=>exact absurd ⟨rfl,rfl,rfl⟩ hall
    | false =>
     go_enter Tryz.func9,Tryz.ntmps9
     go_wp2_with (first|(go_at_call 37;(with_reducible (refine (HTX.out _ (st_bel H.out)).mono ?_));rintro e wc ⟨rfl,hb9⟩;have H2:=H.out.below hb9;clear hb9;replace H:=Lib.hid H2;clear H2)|(refine St.w_alloc (ty:=24) H.out (by rfl) rfl zVl_ rfl ?_;intro wn Cn _ _ H2;replace H:=Lib.hid H2;clear H2)|(first|(refine St.w_store (ty:=24) H.out (by rfl) rfl rfl rfl 0 rfl rfl rfl sVl_ (all_one rfl) ?_;intro wn _ _ H2;replace H:=Lib.hid H2;clear H2))|(go_at_call 21;(with_reducible (refine (HW.out _ (st_bel H.out)).mono ?_));rintro e wc ⟨rfl,hb9⟩;have H2:=H.out.below hb9;clear hb9;replace H:=Lib.hid H2;clear H2)|(go_at_call 22;(with_reducible (refine (HWS.out _ (st_bel H.out)).mono ?_));rintro e wc ⟨rfl,hb9⟩;have H2:=H.out.below hb9;clear hb9;replace H:=Lib.hid H2;clear H2)|(first|(refine St.w_load (ty:=24) H.out (by rfl) rfl rfl 0 rfl uVl_ sVl_ ?_))|(go_at_call 38;(with_reducible (refine (HR.out _ (st_bel H.out)).mono ?_));rintro e wc ⟨rfl,hb9⟩;have H2:=H.out.below hb9;clear hb9;replace H:=Lib.hid H2;clear H2)|(go_at_call 23;(with_reducible (refine (HAW.out _ (st_bel H.out)).mono ?_));rintro e wc ⟨rfl,hb9⟩;have H2:=H.out.below hb9;clear hb9;replace H:=Lib.hid H2;clear H2))
     go_ret
     exact ⟨rfl,st_bel H.out⟩
end Go.Proofs.YtonkjhmkppeagaaGreatDoor.Pz
