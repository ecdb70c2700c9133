/- Walks: schemes, mappings, definitions. Walks: definitions. -/
import Derived.Test.YtonkjhmkppeagaaGreatDoorTQe
set_option linter.unusedVariables false
set_option linter.unusedSimpArgs false
namespace Go.Proofs.YtonkjhmkppeagaaGreatDoor.Pz
open Go.RowKit Go Go.Sort Ba Lx
abbrev ScOk (B d:Nat):Prop:=∀ (W:World) (s:Ps),PAt W B d s→Calls Tryz.prog 116 #[.pointer (some ⟨B,0,none⟩)] W fun e w'=>e=.returned (.agg #[.int .i64 (schemeP s).1.k,.int .i64 (schemeP s).1.f,.int .i64 (schemeP s).1.l])∧Kept (fun b=>b=B) W w'∧PAt w' B d (schemeP s).2
abbrev MpOk (B d:Nat):Prop:=∀ (W:World) (s:Ps),PAt W B d s→Calls Tryz.prog 118 #[.pointer (some ⟨B,0,none⟩)] W fun e w'=>e=.returned (.agg #[.int .i64 (mappingP s).1.1,.int .i64 (mappingP s).1.2])∧Kept (fun b=>b=B) W w'∧PAt w' B d (mappingP s).2
theorem tok_n {w:World} {B d:Nat} {s:Ps} (h:PAt w B d s):0≤(tokenP 2 s).1.n∧(tokenP 2 s).1.n≤9223372036854775807:=by
 have hz:0≤zTok.n∧zTok.n≤9223372036854775807:=by decide
 unfold tokenP
 split
 ·show 0≤(peekP s).n∧_
  unfold peekP
  split
  ·rw [List.getD_eq_getElem?_getD]
   cases hq:s.T[s.i]? with
   | none=>exact hz
   | some t=>exact h.2.2.2.1 t (List.mem_of_getElem? hq)
  ·exact hz
 ·exact hz
set_option maxRecDepth 100000 in
set_option maxHeartbeats 1600000 in
theorem scheme_any (B d:Nat):ScOk B d:=fun w s hp=>by
 have H:=Lib.hid (Sr.start hp)
 obtain ⟨⟨n,s1⟩,h1⟩:∃ r,oneP schemeWords s=r:=⟨_,rfl⟩
 obtain ⟨⟨t2,s2⟩,h2⟩:∃ r,tokenP 2 s1=r:=⟨_,rfl⟩
 obtain ⟨⟨t4,s4⟩,h4⟩:∃ r,tokenP 2 (wantP [46,46] s2)=r:=⟨_,rfl⟩
 have HE:Hid (schemeP s=(⟨(n:Int),t2.n,t4.n⟩,s4)):=by show schemeP s=_;unfold schemeP;rw [h1];simp only;rw [h2];simp only;rw [h4]
 have HO:Hid (∀ W v,PAt W B d s→OpsAt W B v schemeWords→Calls Tryz.prog 90 #[.pointer (some ⟨B,0,none⟩),v] W (OneTo W B d (n,s1))):=fun W v hP hO=>by
  have:=one_any schemeWords s v W B d (by decide) hP hO
  rw [h1] at this
  exact this
 have HT2:Hid (∀ W,PAt W B d s1→Calls Tryz.prog 119 #[.pointer (some ⟨B,0,none⟩),.int .i64 2] W (TokTo W B d (t2,s2))):=fun W hW=>by
  have:=token_any s1 2 (by decide) W B d hW
  rw [h2] at this
  exact this
 have HT4:Hid (∀ W,PAt W B d (wantP [46,46] s2)→Calls Tryz.prog 119 #[.pointer (some ⟨B,0,none⟩),.int .i64 2] W (TokTo W B d (t4,s4))):=fun W hW=>by
  have:=token_any (wantP [46,46] s2) 2 (by decide) W B d hW
  rw [h4] at this
  exact this
 have hf2:=fun W=>field_tok2 t2.k t2.n t2.p ⟨t2.t.toArray⟩ W
 have hf4:=fun W=>field_tok2 t4.k t4.n t4.p ⟨t4.t.toArray⟩ W
 clear hp h1 h2 h4
 go_enter Tryz.func116,Tryz.ntmps116
 go_wp2_with (first|(refine Sr.w_alloc (ty:=85) H.out (by rfl) rfl zSc_ rfl ?_;intro wn Cn H2;replace H:=Lib.hid H2;clear H2)|(refine Sr.w_lit H.out (by rfl) rfl Tryz.underlying48 iStr2_ [.string ⟨#[104,111,117,114,108,121]⟩,.string ⟨#[100,97,105,108,121]⟩,.string ⟨#[119,101,101,107,108,121]⟩,.string ⟨#[109,111,110,116,104,108,121]⟩,.string ⟨#[115,116,97,116,105,99]⟩] rfl rfl rfl (by decide) (by decide) (by decide) (all_k rfl) rfl ?_;intro wl Wl H2;replace H:=Lib.hid H2;clear H2)|(go_at_call 90;(with_reducible (refine (HO.out _ (.slice (some ⟨_,0,none⟩) 5 5) H.out.pat (ops_box H.out (i:=0) rfl schemeWords rfl rfl (by decide))).mono ?_));rintro e wc ⟨rfl,hK,hP⟩;have H2:=H.out.call hK hP;clear hK hP;replace H:=Lib.hid H2;clear H2)|(first|(refine Sr.w_store (ty:=85) H.out (by rfl) rfl rfl rfl 0 rfl rfl rfl sSc_ (all_one rfl) ?_;intro wn H2;replace H:=Lib.hid H2;clear H2)|(refine Sr.w_store (ty:=85) H.out (by rfl) rfl rfl rfl 2 rfl rfl rfl sSc_ (all_one rfl) ?_;intro wn H2;replace H:=Lib.hid H2;clear H2))|(first|(go_at_call 119;(with_reducible (refine (HT2.out _ H.out.pat).mono ?_));rintro e wc ⟨rfl,hK,hP⟩;have H2:=H.out.call hK hP;clear hK hP;replace H:=Lib.hid H2;clear H2)|(go_at_call 119;(with_reducible (refine (HT4.out _ H.out.pat).mono ?_));rintro e wc ⟨rfl,hK,hP⟩;have H2:=H.out.call hK hP;clear hK hP;replace H:=Lib.hid H2;clear H2))|(go_at_call 94;(with_reducible (refine (want_any s2 [46,46] _ B d H.out.pat).mono ?_));rintro e wc ⟨rfl,hK,hP⟩;have H2:=H.out.call hK hP;clear hK hP;replace H:=Lib.hid H2;clear H2)|(first|(refine Sr.w_store1 (ty:=3) H.out (by rfl) rfl rfl rfl 0 rfl (Nat.le_of_ble_eq_true rfl) sInt_ rfl ?_;intro wn H2;replace H:=Lib.hid H2;clear H2))|(first|(refine St.w_load (ty:=85) H.out.st (by rfl) rfl rfl 0 rfl uSc_ sSc_ ?_)))
 refine bodyPost_ret (H.out.st.results Tryz.results116 (by rfl) 2 rfl uSc_ sSc_) rfl ?_
 rw [HE.out]
 exact ⟨rfl,H.out.st.kept,H.out.pat⟩
set_option maxRecDepth 100000 in
set_option maxHeartbeats 1600000 in
theorem mapping_0 (B d:Nat) (w:World) (s s1:Ps) (hp:PAt w B d s) (h1:oneP mapWords s=(0,s1)):Calls Tryz.prog 118 #[.pointer (some ⟨B,0,none⟩)] w fun e w'=>e=.returned (.agg #[.int .i64 (mappingP s).1.1,.int .i64 (mappingP s).1.2])∧Kept (fun b=>b=B) w w'∧PAt w' B d (mappingP s).2:=by
 have H:=Lib.hid (Sr.start hp)
 have HE:Hid (mappingP s=((0,0),s1)):=by show mappingP s=_;unfold mappingP;rw [h1];simp only;unfold mapK;rfl
 have HO:Hid (∀ W v,PAt W B d s→OpsAt W B v mapWords→Calls Tryz.prog 90 #[.pointer (some ⟨B,0,none⟩),v] W (OneTo W B d (0,s1))):=fun W v hP hO=>by
  have:=one_any mapWords s v W B d (by decide) hP hO
  rw [h1] at this
  exact this
 clear hp h1
 go_enter Tryz.func118,Tryz.ntmps118
 go_wp2_with (first|(refine Sr.w_alloc (ty:=100) H.out (by rfl) rfl zMp_ rfl ?_;intro wn Cn H2;replace H:=Lib.hid H2;clear H2)|(refine Sr.w_lit H.out (by rfl) rfl Tryz.underlying48 iStr2_ [.string ⟨#[115,97,109,101]⟩,.string ⟨#[108,97,115,116]⟩,.string ⟨#[115,104,105,102,116]⟩,.string ⟨#[119,105,116,104,105,110]⟩,.string ⟨#[97,108,108]⟩] rfl rfl rfl (by decide) (by decide) (by decide) (all_k rfl) rfl ?_;intro wl Wl H2;replace H:=Lib.hid H2;clear H2)|(go_at_call 90;(with_reducible (refine (HO.out _ (.slice (some ⟨_,0,none⟩) 5 5) H.out.pat (ops_box H.out (i:=0) rfl mapWords rfl rfl (by decide))).mono ?_));rintro e wc ⟨rfl,hK,hP⟩;have H2:=H.out.call hK hP;clear hK hP;replace H:=Lib.hid H2;clear H2)|(first|(refine Sr.w_store (ty:=100) H.out (by rfl) rfl rfl rfl 0 rfl rfl rfl sMp_ (all_one rfl) ?_;intro wn H2;replace H:=Lib.hid H2;clear H2)|(refine Sr.w_store (ty:=100) H.out (by rfl) rfl rfl rfl 2 rfl rfl rfl sMp_ (all_one rfl) ?_;intro wn H2;replace H:=Lib.hid H2;clear H2))|(first|(refine St.w_load1 (ty:=3) H.out.st (by rfl) rfl rfl 0 rfl rfl uInt_ ?_))|(first|(refine Sr.w_store1 (ty:=3) H.out (by rfl) rfl rfl rfl 0 rfl (Nat.le_of_ble_eq_true rfl) sInt_ rfl ?_;intro wn H2;replace H:=Lib.hid H2;clear H2))|(first|(refine St.w_load (ty:=100) H.out.st (by rfl) rfl rfl 0 rfl uMp_ sMp_ ?_)))
 refine bodyPost_ret (H.out.st.results Tryz.results118 (by rfl) 2 rfl uMp_ sMp_) rfl ?_
 rw [HE.out]
 exact ⟨rfl,H.out.st.kept,H.out.pat⟩
set_option maxRecDepth 100000 in
set_option maxHeartbeats 1600000 in
theorem mapping_1 (B d:Nat) (w:World) (s s1:Ps) (hp:PAt w B d s) (h1:oneP mapWords s=(1,s1)):Calls Tryz.prog 118 #[.pointer (some ⟨B,0,none⟩)] w fun e w'=>e=.returned (.agg #[.int .i64 (mappingP s).1.1,.int .i64 (mappingP s).1.2])∧Kept (fun b=>b=B) w w'∧PAt w' B d (mappingP s).2:=by
 have H:=Lib.hid (Sr.start hp)
 have HE:Hid (mappingP s=((1,0),s1)):=by show mappingP s=_;unfold mappingP;rw [h1];simp only;unfold mapK;rfl
 have HO:Hid (∀ W v,PAt W B d s→OpsAt W B v mapWords→Calls Tryz.prog 90 #[.pointer (some ⟨B,0,none⟩),v] W (OneTo W B d (1,s1))):=fun W v hP hO=>by
  have:=one_any mapWords s v W B d (by decide) hP hO
  rw [h1] at this
  exact this
 clear hp h1
 go_enter Tryz.func118,Tryz.ntmps118
 go_wp2_with (first|(refine Sr.w_alloc (ty:=100) H.out (by rfl) rfl zMp_ rfl ?_;intro wn Cn H2;replace H:=Lib.hid H2;clear H2)|(refine Sr.w_lit H.out (by rfl) rfl Tryz.underlying48 iStr2_ [.string ⟨#[115,97,109,101]⟩,.string ⟨#[108,97,115,116]⟩,.string ⟨#[115,104,105,102,116]⟩,.string ⟨#[119,105,116,104,105,110]⟩,.string ⟨#[97,108,108]⟩] rfl rfl rfl (by decide) (by decide) (by decide) (all_k rfl) rfl ?_;intro wl Wl H2;replace H:=Lib.hid H2;clear H2)|(go_at_call 90;(with_reducible (refine (HO.out _ (.slice (some ⟨_,0,none⟩) 5 5) H.out.pat (ops_box H.out (i:=0) rfl mapWords rfl rfl (by decide))).mono ?_));rintro e wc ⟨rfl,hK,hP⟩;have H2:=H.out.call hK hP;clear hK hP;replace H:=Lib.hid H2;clear H2)|(first|(refine Sr.w_store (ty:=100) H.out (by rfl) rfl rfl rfl 0 rfl rfl rfl sMp_ (all_one rfl) ?_;intro wn H2;replace H:=Lib.hid H2;clear H2)|(refine Sr.w_store (ty:=100) H.out (by rfl) rfl rfl rfl 2 rfl rfl rfl sMp_ (all_one rfl) ?_;intro wn H2;replace H:=Lib.hid H2;clear H2))|(first|(refine St.w_load1 (ty:=3) H.out.st (by rfl) rfl rfl 0 rfl rfl uInt_ ?_))|(first|(refine Sr.w_store1 (ty:=3) H.out (by rfl) rfl rfl rfl 0 rfl (Nat.le_of_ble_eq_true rfl) sInt_ rfl ?_;intro wn H2;replace H:=Lib.hid H2;clear H2))|(first|(refine St.w_load (ty:=100) H.out.st (by rfl) rfl rfl 0 rfl uMp_ sMp_ ?_)))
 refine bodyPost_ret (H.out.st.results Tryz.results118 (by rfl) 2 rfl uMp_ sMp_) rfl ?_
 rw [HE.out]
 exact ⟨rfl,H.out.st.kept,H.out.pat⟩
set_option maxRecDepth 100000 in
set_option maxHeartbeats 1600000 in
theorem mapping_2 (B d:Nat) (w:World) (s s1:Ps) (hp:PAt w B d s) (h1:oneP mapWords s=(2,s1)):Calls Tryz.prog 118 #[.pointer (some ⟨B,0,none⟩)] w fun e w'=>e=.returned (.agg #[.int .i64 (mappingP s).1.1,.int .i64 (mappingP s).1.2])∧Kept (fun b=>b=B) w w'∧PAt w' B d (mappingP s).2:=by
 have H:=Lib.hid (Sr.start hp)
 have HE:Hid (mappingP s=((2,(tokenP 2 s1).1.n),(tokenP 2 s1).2)):=by show mappingP s=_;unfold mappingP;rw [h1];simp only;unfold mapK;rfl
 have HO:Hid (∀ W v,PAt W B d s→OpsAt W B v mapWords→Calls Tryz.prog 90 #[.pointer (some ⟨B,0,none⟩),v] W (OneTo W B d (2,s1))):=fun W v hP hO=>by
  have:=one_any mapWords s v W B d (by decide) hP hO
  rw [h1] at this
  exact this
 have hf2:=fun W=>field_tok2 (tokenP 2 s1).1.k (tokenP 2 s1).1.n (tokenP 2 s1).1.p ⟨(tokenP 2 s1).1.t.toArray⟩ W
 clear hp h1
 go_enter Tryz.func118,Tryz.ntmps118
 go_wp2_with (first|(refine Sr.w_alloc (ty:=100) H.out (by rfl) rfl zMp_ rfl ?_;intro wn Cn H2;replace H:=Lib.hid H2;clear H2)|(refine Sr.w_lit H.out (by rfl) rfl Tryz.underlying48 iStr2_ [.string ⟨#[115,97,109,101]⟩,.string ⟨#[108,97,115,116]⟩,.string ⟨#[115,104,105,102,116]⟩,.string ⟨#[119,105,116,104,105,110]⟩,.string ⟨#[97,108,108]⟩] rfl rfl rfl (by decide) (by decide) (by decide) (all_k rfl) rfl ?_;intro wl Wl H2;replace H:=Lib.hid H2;clear H2)|(go_at_call 90;(with_reducible (refine (HO.out _ (.slice (some ⟨_,0,none⟩) 5 5) H.out.pat (ops_box H.out (i:=0) rfl mapWords rfl rfl (by decide))).mono ?_));rintro e wc ⟨rfl,hK,hP⟩;have H2:=H.out.call hK hP;clear hK hP;replace H:=Lib.hid H2;clear H2)|(first|(refine Sr.w_store (ty:=100) H.out (by rfl) rfl rfl rfl 0 rfl rfl rfl sMp_ (all_one rfl) ?_;intro wn H2;replace H:=Lib.hid H2;clear H2)|(refine Sr.w_store (ty:=100) H.out (by rfl) rfl rfl rfl 2 rfl rfl rfl sMp_ (all_one rfl) ?_;intro wn H2;replace H:=Lib.hid H2;clear H2))|(go_at_call 119;(with_reducible (refine (token_any s1 2 (by decide) _ B d H.out.pat).mono ?_));rintro e wc ⟨rfl,hK,hP⟩;have H2:=H.out.call hK hP;clear hK hP;replace H:=Lib.hid H2;clear H2)|(first|(refine St.w_load1 (ty:=3) H.out.st (by rfl) rfl rfl 0 rfl rfl uInt_ ?_))|(first|(refine Sr.w_store1 (ty:=3) H.out (by rfl) rfl rfl rfl 0 rfl (Nat.le_of_ble_eq_true rfl) sInt_ rfl ?_;intro wn H2;replace H:=Lib.hid H2;clear H2))|(first|(refine St.w_load (ty:=100) H.out.st (by rfl) rfl rfl 0 rfl uMp_ sMp_ ?_)))
 refine bodyPost_ret (H.out.st.results Tryz.results118 (by rfl) 2 rfl uMp_ sMp_) rfl ?_
 rw [HE.out]
 exact ⟨rfl,H.out.st.kept,H.out.pat⟩
set_option maxRecDepth 100000 in
set_option maxHeartbeats 1600000 in
theorem mapping_4 (B d:Nat) (w:World) (s s1:Ps) (hp:PAt w B d s) (h1:oneP mapWords s=(4,s1)):Calls Tryz.prog 118 #[.pointer (some ⟨B,0,none⟩)] w fun e w'=>e=.returned (.agg #[.int .i64 (mappingP s).1.1,.int .i64 (mappingP s).1.2])∧Kept (fun b=>b=B) w w'∧PAt w' B d (mappingP s).2:=by
 have H:=Lib.hid (Sr.start hp)
 have HE:Hid (mappingP s=((4,0),s1)):=by show mappingP s=_;unfold mappingP;rw [h1];simp only;unfold mapK;rfl
 have HO:Hid (∀ W v,PAt W B d s→OpsAt W B v mapWords→Calls Tryz.prog 90 #[.pointer (some ⟨B,0,none⟩),v] W (OneTo W B d (4,s1))):=fun W v hP hO=>by
  have:=one_any mapWords s v W B d (by decide) hP hO
  rw [h1] at this
  exact this
 clear hp h1
 go_enter Tryz.func118,Tryz.ntmps118
 go_wp2_with (first|(refine Sr.w_alloc (ty:=100) H.out (by rfl) rfl zMp_ rfl ?_;intro wn Cn H2;replace H:=Lib.hid H2;clear H2)|(refine Sr.w_lit H.out (by rfl) rfl Tryz.underlying48 iStr2_ [.string ⟨#[115,97,109,101]⟩,.string ⟨#[108,97,115,116]⟩,.string ⟨#[115,104,105,102,116]⟩,.string ⟨#[119,105,116,104,105,110]⟩,.string ⟨#[97,108,108]⟩] rfl rfl rfl (by decide) (by decide) (by decide) (all_k rfl) rfl ?_;intro wl Wl H2;replace H:=Lib.hid H2;clear H2)|(go_at_call 90;(with_reducible (refine (HO.out _ (.slice (some ⟨_,0,none⟩) 5 5) H.out.pat (ops_box H.out (i:=0) rfl mapWords rfl rfl (by decide))).mono ?_));rintro e wc ⟨rfl,hK,hP⟩;have H2:=H.out.call hK hP;clear hK hP;replace H:=Lib.hid H2;clear H2)|(first|(refine Sr.w_store (ty:=100) H.out (by rfl) rfl rfl rfl 0 rfl rfl rfl sMp_ (all_one rfl) ?_;intro wn H2;replace H:=Lib.hid H2;clear H2)|(refine Sr.w_store (ty:=100) H.out (by rfl) rfl rfl rfl 2 rfl rfl rfl sMp_ (all_one rfl) ?_;intro wn H2;replace H:=Lib.hid H2;clear H2))|(first|(refine St.w_load1 (ty:=3) H.out.st (by rfl) rfl rfl 0 rfl rfl uInt_ ?_))|(first|(refine Sr.w_store1 (ty:=3) H.out (by rfl) rfl rfl rfl 0 rfl (Nat.le_of_ble_eq_true rfl) sInt_ rfl ?_;intro wn H2;replace H:=Lib.hid H2;clear H2))|(first|(refine St.w_load (ty:=100) H.out.st (by rfl) rfl rfl 0 rfl uMp_ sMp_ ?_)))
 refine bodyPost_ret (H.out.st.results Tryz.results118 (by rfl) 2 rfl uMp_ sMp_) rfl ?_
 rw [HE.out]
 exact ⟨rfl,H.out.st.kept,H.out.pat⟩
set_option maxRecDepth 100000 in
set_option maxHeartbeats 1600000 in
theorem mapping_5 (B d:Nat) (w:World) (s s1:Ps) (hp:PAt w B d s) (h1:oneP mapWords s=(5,s1)):Calls Tryz.prog 118 #[.pointer (some ⟨B,0,none⟩)] w fun e w'=>e=.returned (.agg #[.int .i64 (mappingP s).1.1,.int .i64 (mappingP s).1.2])∧Kept (fun b=>b=B) w w'∧PAt w' B d (mappingP s).2:=by
 have H:=Lib.hid (Sr.start hp)
 have HE:Hid (mappingP s=((5,0),s1)):=by show mappingP s=_;unfold mappingP;rw [h1];simp only;unfold mapK;rfl
 have HO:Hid (∀ W v,PAt W B d s→OpsAt W B v mapWords→Calls Tryz.prog 90 #[.pointer (some ⟨B,0,none⟩),v] W (OneTo W B d (5,s1))):=fun W v hP hO=>by
  have:=one_any mapWords s v W B d (by decide) hP hO
  rw [h1] at this
  exact this
 clear hp h1
 go_enter Tryz.func118,Tryz.ntmps118
 go_wp2_with (first|(refine Sr.w_alloc (ty:=100) H.out (by rfl) rfl zMp_ rfl ?_;intro wn Cn H2;replace H:=Lib.hid H2;clear H2)|(refine Sr.w_lit H.out (by rfl) rfl Tryz.underlying48 iStr2_ [.string ⟨#[115,97,109,101]⟩,.string ⟨#[108,97,115,116]⟩,.string ⟨#[115,104,105,102,116]⟩,.string ⟨#[119,105,116,104,105,110]⟩,.string ⟨#[97,108,108]⟩] rfl rfl rfl (by decide) (by decide) (by decide) (all_k rfl) rfl ?_;intro wl Wl H2;replace H:=Lib.hid H2;clear H2)|(go_at_call 90;(with_reducible (refine (HO.out _ (.slice (some ⟨_,0,none⟩) 5 5) H.out.pat (ops_box H.out (i:=0) rfl mapWords rfl rfl (by decide))).mono ?_));rintro e wc ⟨rfl,hK,hP⟩;have H2:=H.out.call hK hP;clear hK hP;replace H:=Lib.hid H2;clear H2)|(first|(refine Sr.w_store (ty:=100) H.out (by rfl) rfl rfl rfl 0 rfl rfl rfl sMp_ (all_one rfl) ?_;intro wn H2;replace H:=Lib.hid H2;clear H2)|(refine Sr.w_store (ty:=100) H.out (by rfl) rfl rfl rfl 2 rfl rfl rfl sMp_ (all_one rfl) ?_;intro wn H2;replace H:=Lib.hid H2;clear H2))|(first|(refine St.w_load1 (ty:=3) H.out.st (by rfl) rfl rfl 0 rfl rfl uInt_ ?_))|(first|(refine Sr.w_store1 (ty:=3) H.out (by rfl) rfl rfl rfl 0 rfl (Nat.le_of_ble_eq_true rfl) sInt_ rfl ?_;intro wn H2;replace H:=Lib.hid H2;clear H2))|(first|(refine St.w_load (ty:=100) H.out.st (by rfl) rfl rfl 0 rfl uMp_ sMp_ ?_)))
 refine bodyPost_ret (H.out.st.results Tryz.results118 (by rfl) 2 rfl uMp_ sMp_) rfl ?_
 rw [HE.out]
 exact ⟨rfl,H.out.st.kept,H.out.pat⟩
set_option maxRecDepth 100000 in
set_option maxHeartbeats 1600000 in
theorem mapping_3t (B d:Nat) (w:World) (s s1:Ps) (hp:PAt w B d s) (h1:oneP mapWords s=(3,s1)) (hb:isP s1 [45]=true):Calls Tryz.prog 118 #[.pointer (some ⟨B,0,none⟩)] w fun e w'=>e=.returned (.agg #[.int .i64 (mappingP s).1.1,.int .i64 (mappingP s).1.2])∧Kept (fun b=>b=B) w w'∧PAt w' B d (mappingP s).2:=by
 have H:=Lib.hid (Sr.start hp)
 have HE:Hid (mappingP s=((3,-(tokenP 2 (advP s1)).1.n),(tokenP 2 (advP s1)).2)):=by show mappingP s=_;unfold mappingP;rw [h1];simp only;unfold mapK;simp only [hb];rfl
 have HO:Hid (∀ W v,PAt W B d s→OpsAt W B v mapWords→Calls Tryz.prog 90 #[.pointer (some ⟨B,0,none⟩),v] W (OneTo W B d (3,s1))):=fun W v hP hO=>by
  have:=one_any mapWords s v W B d (by decide) hP hO
  rw [h1] at this
  exact this
 have HW:Hid (∀ W,PAt W B d (advP s1)→IntKind.i64.wrap (-(tokenP 2 (advP s1)).1.n)=-(tokenP 2 (advP s1)).1.n):=fun W hW=>by have:=tok_n hW;exact IntWalk.i64_in _ (by omega)
 have hf2:=fun W=>field_tok2 (tokenP 2 (advP s1)).1.k (tokenP 2 (advP s1)).1.n (tokenP 2 (advP s1)).1.p ⟨(tokenP 2 (advP s1)).1.t.toArray⟩ W
 have HM:Hid (∀ W,PAt W B d s1→Calls Tryz.prog 88 #[.pointer (some ⟨B,0,none⟩),.string ⟨#[45]⟩] W (MaybeTo W B d true (advP s1))):=fun W hW=>maybe_yes _ _ hb W B d hW
 clear hp h1 hb
 go_enter Tryz.func118,Tryz.ntmps118
 go_wp2_with (first|(refine Sr.w_alloc (ty:=100) H.out (by rfl) rfl zMp_ rfl ?_;intro wn Cn H2;replace H:=Lib.hid H2;clear H2)|(refine Sr.w_lit H.out (by rfl) rfl Tryz.underlying48 iStr2_ [.string ⟨#[115,97,109,101]⟩,.string ⟨#[108,97,115,116]⟩,.string ⟨#[115,104,105,102,116]⟩,.string ⟨#[119,105,116,104,105,110]⟩,.string ⟨#[97,108,108]⟩] rfl rfl rfl (by decide) (by decide) (by decide) (all_k rfl) rfl ?_;intro wl Wl H2;replace H:=Lib.hid H2;clear H2)|(go_at_call 90;(with_reducible (refine (HO.out _ (.slice (some ⟨_,0,none⟩) 5 5) H.out.pat (ops_box H.out (i:=0) rfl mapWords rfl rfl (by decide))).mono ?_));rintro e wc ⟨rfl,hK,hP⟩;have H2:=H.out.call hK hP;clear hK hP;replace H:=Lib.hid H2;clear H2)|(first|(refine Sr.w_store (ty:=100) H.out (by rfl) rfl rfl rfl 0 rfl rfl rfl sMp_ (all_one rfl) ?_;intro wn H2;replace H:=Lib.hid H2;clear H2)|(refine Sr.w_store (ty:=100) H.out (by rfl) rfl rfl rfl 2 rfl rfl rfl sMp_ (all_one rfl) ?_;intro wn H2;replace H:=Lib.hid H2;clear H2))|(go_at_call 119;(with_reducible (refine (token_any (advP s1) 2 (by decide) _ B d H.out.pat).mono ?_));rintro e wc ⟨rfl,hK,hP⟩;have H2:=H.out.call hK hP;have hww:=HW.out _ H.out.pat;clear hK hP;replace H:=Lib.hid H2;clear H2)|(go_at_call 88;(with_reducible (refine (HM.out _ H.out.pat).mono ?_));rintro e wc ⟨rfl,hK,hP⟩;have H2:=H.out.call hK hP;clear hK hP;replace H:=Lib.hid H2;clear H2)|(first|(refine St.w_load1 (ty:=3) H.out.st (by rfl) rfl rfl 0 rfl rfl uInt_ ?_))|(first|(refine Sr.w_store1 (ty:=3) H.out (by rfl) rfl rfl rfl 0 rfl (Nat.le_of_ble_eq_true rfl) sInt_ rfl ?_;intro wn H2;replace H:=Lib.hid H2;clear H2))|(first|(refine St.w_load (ty:=100) H.out.st (by rfl) rfl rfl 0 rfl uMp_ sMp_ ?_)))
 refine bodyPost_ret (H.out.st.results Tryz.results118 (by rfl) 2 rfl uMp_ sMp_) rfl ?_
 rw [HE.out]
 exact ⟨rfl,H.out.st.kept,H.out.pat⟩
set_option maxRecDepth 100000 in
set_option maxHeartbeats 1600000 in
theorem mapping_3f (B d:Nat) (w:World) (s s1:Ps) (hp:PAt w B d s) (h1:oneP mapWords s=(3,s1)) (hb:isP s1 [45]=false):Calls Tryz.prog 118 #[.pointer (some ⟨B,0,none⟩)] w fun e w'=>e=.returned (.agg #[.int .i64 (mappingP s).1.1,.int .i64 (mappingP s).1.2])∧Kept (fun b=>b=B) w w'∧PAt w' B d (mappingP s).2:=by
 have H:=Lib.hid (Sr.start hp)
 have HE:Hid (mappingP s=((3,(tokenP 2 s1).1.n),(tokenP 2 s1).2)):=by show mappingP s=_;unfold mappingP;rw [h1];simp only;unfold mapK;simp only [hb];rfl
 have HO:Hid (∀ W v,PAt W B d s→OpsAt W B v mapWords→Calls Tryz.prog 90 #[.pointer (some ⟨B,0,none⟩),v] W (OneTo W B d (3,s1))):=fun W v hP hO=>by
  have:=one_any mapWords s v W B d (by decide) hP hO
  rw [h1] at this
  exact this
 have hf2:=fun W=>field_tok2 (tokenP 2 s1).1.k (tokenP 2 s1).1.n (tokenP 2 s1).1.p ⟨(tokenP 2 s1).1.t.toArray⟩ W
 have HM:Hid (∀ W,PAt W B d s1→Calls Tryz.prog 88 #[.pointer (some ⟨B,0,none⟩),.string ⟨#[45]⟩] W (MaybeTo W B d false s1)):=fun W hW=>maybe_no _ _ hb W B d hW
 clear hp h1 hb
 go_enter Tryz.func118,Tryz.ntmps118
 go_wp2_with (first|(refine Sr.w_alloc (ty:=100) H.out (by rfl) rfl zMp_ rfl ?_;intro wn Cn H2;replace H:=Lib.hid H2;clear H2)|(refine Sr.w_lit H.out (by rfl) rfl Tryz.underlying48 iStr2_ [.string ⟨#[115,97,109,101]⟩,.string ⟨#[108,97,115,116]⟩,.string ⟨#[115,104,105,102,116]⟩,.string ⟨#[119,105,116,104,105,110]⟩,.string ⟨#[97,108,108]⟩] rfl rfl rfl (by decide) (by decide) (by decide) (all_k rfl) rfl ?_;intro wl Wl H2;replace H:=Lib.hid H2;clear H2)|(go_at_call 90;(with_reducible (refine (HO.out _ (.slice (some ⟨_,0,none⟩) 5 5) H.out.pat (ops_box H.out (i:=0) rfl mapWords rfl rfl (by decide))).mono ?_));rintro e wc ⟨rfl,hK,hP⟩;have H2:=H.out.call hK hP;clear hK hP;replace H:=Lib.hid H2;clear H2)|(first|(refine Sr.w_store (ty:=100) H.out (by rfl) rfl rfl rfl 0 rfl rfl rfl sMp_ (all_one rfl) ?_;intro wn H2;replace H:=Lib.hid H2;clear H2)|(refine Sr.w_store (ty:=100) H.out (by rfl) rfl rfl rfl 2 rfl rfl rfl sMp_ (all_one rfl) ?_;intro wn H2;replace H:=Lib.hid H2;clear H2))|(go_at_call 119;(with_reducible (refine (token_any s1 2 (by decide) _ B d H.out.pat).mono ?_));rintro e wc ⟨rfl,hK,hP⟩;have H2:=H.out.call hK hP;clear hK hP;replace H:=Lib.hid H2;clear H2)|(go_at_call 88;(with_reducible (refine (HM.out _ H.out.pat).mono ?_));rintro e wc ⟨rfl,hK,hP⟩;have H2:=H.out.call hK hP;clear hK hP;replace H:=Lib.hid H2;clear H2)|(first|(refine St.w_load1 (ty:=3) H.out.st (by rfl) rfl rfl 0 rfl rfl uInt_ ?_))|(first|(refine Sr.w_store1 (ty:=3) H.out (by rfl) rfl rfl rfl 0 rfl (Nat.le_of_ble_eq_true rfl) sInt_ rfl ?_;intro wn H2;replace H:=Lib.hid H2;clear H2))|(first|(refine St.w_load (ty:=100) H.out.st (by rfl) rfl rfl 0 rfl uMp_ sMp_ ?_)))
 refine bodyPost_ret (H.out.st.results Tryz.results118 (by rfl) 2 rfl uMp_ sMp_) rfl ?_
 rw [HE.out]
 exact ⟨rfl,H.out.st.kept,H.out.pat⟩
theorem mapping_any (B d:Nat):MpOk B d:=fun w s hp=>by
 have hk:(oneP mapWords s).1≤5:=by
  unfold oneP
  rw [oneFrom_is]
  cases hf:firstOp mapWords s with
  | none=>exact Nat.zero_le _
  | some k =>
   have:=(firstOp_some hf).1
   have e:mapWords.length=5:=rfl
   show 1+k≤5
   omega
 obtain ⟨⟨n,s1⟩,h1⟩:∃ r,oneP mapWords s=r:=⟨_,rfl⟩
 rw [h1] at hk
 change n≤5 at hk
 match n,hk with
 | 0,_=>exact mapping_0 B d w s s1 hp h1
 | 1,_=>exact mapping_1 B d w s s1 hp h1
 | 2,_=>exact mapping_2 B d w s s1 hp h1
 | 3,_ =>
  cases hb:isP s1 [45] with
  | true=>exact mapping_3t B d w s s1 hp h1 hb
  | false=>exact mapping_3f B d w s s1 hp h1 hb
 | 4,_=>exact mapping_4 B d w s s1 hp h1
 | 5,_=>exact mapping_5 B d w s s1 hp h1
 | n+6,hk=>omega
end Go.Proofs.YtonkjhmkppeagaaGreatDoor.Pz
namespace Go.Proofs.YtonkjhmkppeagaaGreatDoor.Pz
open Go.RowKit Go Go.Sort Ba Lx
theorem row_df {W:World} {ok:Nat→Prop} {x:Df} {s0 s1 s2:Value} {pc:List Value} (h0:Rep W ok (.sl 2 (x.sch.map colD)) s0) (h1:Rep W ok (.sl 4 (x.ins.map inpD)) s1) (hp:Row W ok (plD x.plan) pc) (h2:Rep W ok (.sl 1 (x.mks.map strD)) s2) :
 Row W ok (dfD x) ([.int .i64 x.k,.string ⟨x.nm.toArray⟩,s0]++[.int .i64 x.sc.k,.int .i64 x.sc.f,.int .i64 x.sc.l]++[s1]++pc++[.string ⟨x.cron.toArray⟩,s2]) :=
 (((((((Row.nil W ok).cons h0).cons (.v _ rfl)).cons (.v _ rfl)).app ((((Row.nil W ok).cons (.v _ rfl)).cons (.v _ rfl)).cons (.v _ rfl))).app ((Row.nil W ok).cons h1)).app hp).app (((Row.nil W ok).cons h2).cons (.v _ rfl))
abbrev DfOk (F:FuncId) (f:Ps→Df × Ps) (B d:Nat):Prop:=∀ W s,PAt W B d s→Calls Tryz.prog F #[.pointer (some ⟨B,0,none⟩)] W (RowTo W B d (dfD (f s).1) (f s).2)
set_option maxRecDepth 100000 in
set_option maxHeartbeats 1600000 in
theorem schedule_any (B d:Nat):DfOk 93 scheduleP B d:=fun w s hp=>by
 have H:=Lib.hid (Sr.start hp)
 obtain ⟨⟨nm,s1⟩,h1⟩:∃ r,nameP s=r:=⟨_,rfl⟩
 obtain ⟨⟨t2,s2⟩,h2⟩:∃ r,tokenP 3 s1=r:=⟨_,rfl⟩
 obtain ⟨⟨ms,s4⟩,h4⟩:∃ r,namesP (wantP [109,97,107,101,115] s2)=r:=⟨_,rfl⟩
 have HE:Hid (scheduleP s=(⟨3,nm,[],zSc,[],zPl,t2.t,ms⟩,s4)):=by show scheduleP s=_;unfold scheduleP;rw [h1];simp only;rw [h2];simp only;rw [show sMakes=[109,97,107,101,115] from rfl,h4]
 have HN:Hid (∀ W,PAt W B d s→Calls Tryz.prog 109 #[.pointer (some ⟨B,0,none⟩)] W fun e w'=>e=.returned (.string ⟨nm.toArray⟩)∧Kept (fun b=>b=B) W w'∧PAt w' B d s1):=fun W hW=>by
  have:=name_any s W B d hW
  rw [h1] at this
  exact this
 have HT2:Hid (∀ W,PAt W B d s1→Calls Tryz.prog 119 #[.pointer (some ⟨B,0,none⟩),.int .i64 3] W (TokTo W B d (t2,s2))):=fun W hW=>by
  have:=token_any s1 3 (by decide) W B d hW
  rw [h2] at this
  exact this
 have HNS:Hid (∀ W,PAt W B d (wantP [109,97,107,101,115] s2)→Calls Tryz.prog 120 #[.pointer (some ⟨B,0,none⟩)] W (NamesTo W B d (ms,s4))):=fun W hW=>by
  have:=names_any (wantP [109,97,107,101,115] s2) W B d hW
  rw [h4] at this
  exact this
 have hf1:=fun W=>field_tok1 t2.k t2.n t2.p ⟨t2.t.toArray⟩ W
 clear hp h1 h2 h4
 go_enter Tryz.func93,Tryz.ntmps93
 go_wp2_with (first|(refine Sr.w_alloc (ty:=88) H.out (by rfl) rfl zDf_ rfl ?_;intro wn Cn H2;replace H:=Lib.hid H2;clear H2)|(go_at_call 109;(with_reducible (refine (HN.out _ H.out.pat).mono ?_));rintro e wc ⟨rfl,hK,hP⟩;have H2:=H.out.call hK hP;clear hK hP;replace H:=Lib.hid H2;clear H2)|(go_at_call 119;(with_reducible (refine (HT2.out _ H.out.pat).mono ?_));rintro e wc ⟨rfl,hK,hP⟩;have H2:=H.out.call hK hP;clear hK hP;replace H:=Lib.hid H2;clear H2)|(go_at_call 94;(with_reducible (refine (want_any s2 [109,97,107,101,115] _ B d H.out.pat).mono ?_));rintro e wc ⟨rfl,hK,hP⟩;have H2:=H.out.call hK hP;clear hK hP;replace H:=Lib.hid H2;clear H2)|(go_at_call 120;(with_reducible (refine (HNS.out _ H.out.pat).mono ?_));rintro e wc ⟨ao,cp,rfl,hR,hK,hP⟩;have H2:=H.out.callR hK hP ((Row.nil _ _).cons hR);clear hR hK hP;replace H:=Lib.hid H2;clear H2)|(first|(refine Sr.w_store (ty:=88) H.out (by rfl) rfl rfl rfl 0 rfl rfl rfl sDf_ (all_one rfl) ?_;intro wn H2;replace H:=Lib.hid H2;clear H2)|(refine Sr.w_store (ty:=88) H.out (by rfl) rfl rfl rfl 1 rfl rfl rfl sDf_ (all_one rfl) ?_;intro wn H2;replace H:=Lib.hid H2;clear H2))|(first|(refine Sr.w_store1 (ty:=9) H.out (by rfl) rfl rfl rfl 0 rfl (Nat.le_of_ble_eq_true rfl) sStr_ rfl ?_;intro wn H2;replace H:=Lib.hid H2;clear H2))|(first|(refine Sr.w_store1 (ty:=48) H.out (by rfl) rfl rfl rfl 0 rfl (Nat.le_of_ble_eq_true rfl) sSStr_ rfl ?_;intro wn H2;replace H:=Lib.hid H2;clear H2))|(first|(refine St.w_load (ty:=88) H.out.st (by rfl) rfl rfl 0 rfl uDf_ sDf_ ?_)))
 refine bodyPost_ret (H.out.st.results Tryz.results93 (by rfl) 1 rfl uDf_ sDf_) rfl ?_
 rw [HE.out]
 exact H.out.rowTo' (row_df (x:=⟨3,nm,[],zSc,[],zPl,t2.t,ms⟩) (Rep.nil _ _ _) (Rep.nil _ _ _) (row_zPl _ _) (rep1 (H.out.st.rowAt (j:=0) rfl)))
set_option maxRecDepth 100000 in
set_option maxHeartbeats 1600000 in
theorem source_any (B d:Nat):DfOk 91 sourceP B d:=fun w s hp=>by
 have H:=Lib.hid (Sr.start hp)
 obtain ⟨⟨nm,s1⟩,h1⟩:∃ r,nameP s=r:=⟨_,rfl⟩
 obtain ⟨⟨cols,s3⟩,h3⟩:∃ r,listP colItem [] (wantP [40] s1)=r:=⟨_,rfl⟩
 obtain ⟨⟨sc,s5⟩,h5⟩:∃ r,schemeP (wantP [41] s3)=r:=⟨_,rfl⟩
 have HE:Hid (sourceP s=(⟨1,nm,cols,sc,[],zPl,[],[]⟩,s5)):=by show sourceP s=_;unfold sourceP;rw [h1];simp only;rw [h3];simp only;rw [h5]
 have HN:Hid (∀ W,PAt W B d s→Calls Tryz.prog 109 #[.pointer (some ⟨B,0,none⟩)] W fun e w'=>e=.returned (.string ⟨nm.toArray⟩)∧Kept (fun b=>b=B) W w'∧PAt w' B d s1):=fun W hW=>by
  have:=name_any s W B d hW
  rw [h1] at this
  exact this
 have HSC:Hid (∀ W,PAt W B d (wantP [41] s3)→Calls Tryz.prog 116 #[.pointer (some ⟨B,0,none⟩)] W fun e w'=>e=.returned (.agg #[.int .i64 sc.k,.int .i64 sc.f,.int .i64 sc.l])∧Kept (fun b=>b=B) W w'∧PAt w' B d s5):=fun W hW=>by
  have:=scheme_any B d W (wantP [41] s3) hW
  rw [h5] at this
  exact this
 have HG:Hid (∀ (A R C:Nat) (W:World),Sr B d w W (wantP [40] s1) [(A,[.int .i64 1,.string ⟨nm.toArray⟩,.slice none 0 0,.int .i64 0,.int .i64 0,.int .i64 0,.slice none 0 0,.int .i64 0,.string ⟨#[]⟩,.slice none 0 0,.int .i64 0,.string ⟨#[]⟩,.int .i64 0,.int .i64 0,.string ⟨#[]⟩,.string ⟨#[]⟩,.slice none 0 0,.slice none 0 0,.slice none 0 0,.slice none 0 0,.slice none 0 0,.slice none 0 0,.int .i64 0,.string ⟨#[]⟩,.slice none 0 0]),(R,[.int .i64 0,.string ⟨#[]⟩,.slice none 0 0,.int .i64 0,.int .i64 0,.int .i64 0,.slice none 0 0,.int .i64 0,.string ⟨#[]⟩,.slice none 0 0,.int .i64 0,.string ⟨#[]⟩,.int .i64 0,.int .i64 0,.string ⟨#[]⟩,.string ⟨#[]⟩,.slice none 0 0,.slice none 0 0,.slice none 0 0,.slice none 0 0,.slice none 0 0,.slice none 0 0,.int .i64 0,.string ⟨#[]⟩,.slice none 0 0]),(C,[.pointer (some ⟨B,0,none⟩)])] [] []→Calls Tryz.prog 110 #[.pointer (some ⟨B,0,none⟩),.func (.func 115) #[] #[.pointer (some ⟨C,0,none⟩),.pointer (some ⟨A,0,none⟩)]] W fun e w'=>e=.returned (.tuple #[])∧∃ ao n cp,Sr B d w w' s3 [(A,[.int .i64 1,.string ⟨nm.toArray⟩,.slice ao n cp,.int .i64 0,.int .i64 0,.int .i64 0,.slice none 0 0,.int .i64 0,.string ⟨#[]⟩,.slice none 0 0,.int .i64 0,.string ⟨#[]⟩,.int .i64 0,.int .i64 0,.string ⟨#[]⟩,.string ⟨#[]⟩,.slice none 0 0,.slice none 0 0,.slice none 0 0,.slice none 0 0,.slice none 0 0,.slice none 0 0,.int .i64 0,.string ⟨#[]⟩,.slice none 0 0]),(R,[.int .i64 0,.string ⟨#[]⟩,.slice none 0 0,.int .i64 0,.int .i64 0,.int .i64 0,.slice none 0 0,.int .i64 0,.string ⟨#[]⟩,.slice none 0 0,.int .i64 0,.string ⟨#[]⟩,.int .i64 0,.int .i64 0,.string ⟨#[]⟩,.string ⟨#[]⟩,.slice none 0 0,.slice none 0 0,.slice none 0 0,.slice none 0 0,.slice none 0 0,.slice none 0 0,.int .i64 0,.string ⟨#[]⟩,.slice none 0 0]),(C,[.pointer (some ⟨B,0,none⟩)])] [([.sl 2 (cols.map colD)],[.slice ao n cp])] []):=fun A R C W hs=>by
  have:=gather_any (Lf:=fun v=>[(A,[.int .i64 1,.string ⟨nm.toArray⟩,v,.int .i64 0,.int .i64 0,.int .i64 0,.slice none 0 0,.int .i64 0,.string ⟨#[]⟩,.slice none 0 0,.int .i64 0,.string ⟨#[]⟩,.int .i64 0,.int .i64 0,.string ⟨#[]⟩,.string ⟨#[]⟩,.slice none 0 0,.slice none 0 0,.slice none 0 0,.slice none 0 0,.slice none 0 0,.slice none 0 0,.int .i64 0,.string ⟨#[]⟩,.slice none 0 0]),(R,[.int .i64 0,.string ⟨#[]⟩,.slice none 0 0,.int .i64 0,.int .i64 0,.int .i64 0,.slice none 0 0,.int .i64 0,.string ⟨#[]⟩,.slice none 0 0,.int .i64 0,.string ⟨#[]⟩,.int .i64 0,.int .i64 0,.string ⟨#[]⟩,.string ⟨#[]⟩,.slice none 0 0,.slice none 0 0,.slice none 0 0,.slice none 0 0,.slice none 0 0,.slice none 0 0,.int .i64 0,.string ⟨#[]⟩,.slice none 0 0]),(C,[.pointer (some ⟨B,0,none⟩)])]) (T:=92) (k:=2) (rD:=colD) 115 (enters_of Tryz.func115 (by kernel_rfl) rfl) #[.pointer (some ⟨C,0,none⟩),.pointer (some ⟨A,0,none⟩)] colItem goes_colItem
   (fun W acc s hg=>source1_any (us:=fun v=>[.int .i64 1,.string ⟨nm.toArray⟩,v,.int .i64 0,.int .i64 0,.int .i64 0,.slice none 0 0,.int .i64 0,.string ⟨#[]⟩,.slice none 0 0,.int .i64 0,.string ⟨#[]⟩,.int .i64 0,.int .i64 0,.string ⟨#[]⟩,.string ⟨#[]⟩,.slice none 0 0,.slice none 0 0,.slice none 0 0,.slice none 0 0,.slice none 0 0,.slice none 0 0,.int .i64 0,.string ⟨#[]⟩,.slice none 0 0]) (ia:=0) (ic:=2) (fun _=>rfl) (fun _=>rfl) (fun _=>rfl) (fun _ _=>rfl) W acc s hg) W (wantP [40] s1) hs
  rw [h3] at this
  refine this.mono fun e w' ⟨he,ao,cp,cells,hj⟩=>?_
  exact ⟨he,_,_,_,hj.shut⟩
 clear hp h1 h3 h5
 go_enter Tryz.func91,Tryz.ntmps91
 go_wp2_with (first|(refine Sr.w_box (ty:=112) H.out (by rfl) rfl rfl rfl ?_;intro wn C H2;replace H:=Lib.hid H2;clear H2)|(refine Sr.w_alloc (ty:=88) H.out (by rfl) rfl zDf_ rfl ?_;intro wn Cn H2;replace H:=Lib.hid H2;clear H2)|(first|(refine St.w_load1 (ty:=112) H.out.st (by rfl) rfl rfl 1 rfl rfl uPar_ ?_)|(refine St.w_load1 (ty:=112) H.out.st (by rfl) rfl rfl 2 rfl rfl uPar_ ?_))|(go_at_call 109;(with_reducible (refine (HN.out _ H.out.pat).mono ?_));rintro e wc ⟨rfl,hK,hP⟩;have H2:=H.out.call hK hP;clear hK hP;replace H:=Lib.hid H2;clear H2)|(first|(refine Sr.w_store (ty:=88) H.out (by rfl) rfl rfl rfl 0 rfl rfl rfl sDf_ (all_one rfl) ?_;intro wn H2;replace H:=Lib.hid H2;clear H2)|(refine Sr.w_store (ty:=88) H.out (by rfl) rfl rfl rfl 1 rfl rfl rfl sDf_ (all_one rfl) ?_;intro wn H2;replace H:=Lib.hid H2;clear H2))|(first|(go_at_call 94;(with_reducible (refine (want_any s1 [40] _ B d H.out.pat).mono ?_));rintro e wc ⟨rfl,hK,hP⟩;have H2:=H.out.call hK hP;clear hK hP;replace H:=Lib.hid H2;clear H2)|(go_at_call 94;(with_reducible (refine (want_any s3 [41] _ B d H.out.pat).mono ?_));rintro e wc ⟨rfl,hK,hP⟩;have H2:=H.out.call hK hP;clear hK hP;replace H:=Lib.hid H2;clear H2))|(go_at_call 110;have hc:=HG.out _ _ _ _ H.out;(with_reducible (refine hc.mono ?_));clear hc;rintro e wc ⟨rfl,ao,n9,cp,H2⟩;replace H:=Lib.hid H2;clear H2)|(go_at_call 116;(with_reducible (refine (HSC.out _ H.out.pat).mono ?_));rintro e wc ⟨rfl,hK,hP⟩;have H2:=H.out.call hK hP;clear hK hP;replace H:=Lib.hid H2;clear H2)|(refine Sr.w_part (ty:=85) H.out (by rfl) rfl rfl rfl 0 rfl rfl (Nat.le_of_ble_eq_true rfl) sSc_ (all_one rfl) ?_;intro wn H2;replace H:=Lib.hid H2;clear H2)|(first|(refine St.w_load (ty:=88) H.out.st (by rfl) rfl rfl 0 rfl uDf_ sDf_ ?_)))
 refine bodyPost_ret (H.out.st.results Tryz.results91 (by rfl) 1 rfl uDf_ sDf_) rfl ?_
 rw [HE.out]
 exact H.out.rowTo' (row_df (x:=⟨1,nm,cols,sc,[],zPl,[],[]⟩) (rep1 (H.out.st.rowAt (j:=0) rfl)) (Rep.nil _ _ _) (row_zPl _ _) (Rep.nil _ _ _))
set_option maxRecDepth 100000 in
set_option maxHeartbeats 1600000 in
theorem asset_any (B:Nat):DfOk 92 assetP B 0:=fun w s hp=>by
 have H:=Lib.hid (Sr.start hp)
 obtain ⟨⟨nm,s1⟩,h1⟩:∃ r,nameP s=r:=⟨_,rfl⟩
 obtain ⟨⟨sc,s2⟩,h2⟩:∃ r,schemeP s1=r:=⟨_,rfl⟩
 obtain ⟨⟨ins,s3⟩,h3⟩:∃ r,listP inItem [] (wantP [102,114,111,109] s2)=r:=⟨_,rfl⟩
 obtain ⟨⟨q,s5⟩,h5⟩:∃ r,topQ (wantP [100,111] s3)=r:=⟨_,rfl⟩
 have HE:Hid (assetP s=(⟨2,nm,[],sc,ins,q,[],[]⟩,s5)):=by show assetP s=_;unfold assetP;rw [h1];simp only;rw [h2];simp only;rw [show sFrom=[102,114,111,109] from rfl,h3];simp only;rw [show sDo=[100,111] from rfl,h5]
 have HN:Hid (∀ W,PAt W B 0 s→Calls Tryz.prog 109 #[.pointer (some ⟨B,0,none⟩)] W fun e w'=>e=.returned (.string ⟨nm.toArray⟩)∧Kept (fun b=>b=B) W w'∧PAt w' B 0 s1):=fun W hW=>by
  have:=name_any s W B 0 hW
  rw [h1] at this
  exact this
 have HSC:Hid (∀ W,PAt W B 0 s1→Calls Tryz.prog 116 #[.pointer (some ⟨B,0,none⟩)] W fun e w'=>e=.returned (.agg #[.int .i64 sc.k,.int .i64 sc.f,.int .i64 sc.l])∧Kept (fun b=>b=B) W w'∧PAt w' B 0 s2):=fun W hW=>by
  have:=scheme_any B 0 W s1 hW
  rw [h2] at this
  exact this
 have HQ:Hid (∀ W,PAt W B 0 (wantP [100,111] s3)→Calls Tryz.prog 54 #[.pointer (some ⟨B,0,none⟩),.func (.func 55) #[.pointer (some ⟨B,0,none⟩)] #[]] W (RowTo W B 0 (plD q) s5)):=fun W hW=>by
  have:=topQ_any B W (wantP [100,111] s3) hW
  rw [h5] at this
  exact this
 have HG:Hid (∀ (A R C:Nat) (W:World),Sr B 0 w W (wantP [102,114,111,109] s2) [(A,[.int .i64 2,.string ⟨nm.toArray⟩,.slice none 0 0,.int .i64 sc.k,.int .i64 sc.f,.int .i64 sc.l,.slice none 0 0,.int .i64 0,.string ⟨#[]⟩,.slice none 0 0,.int .i64 0,.string ⟨#[]⟩,.int .i64 0,.int .i64 0,.string ⟨#[]⟩,.string ⟨#[]⟩,.slice none 0 0,.slice none 0 0,.slice none 0 0,.slice none 0 0,.slice none 0 0,.slice none 0 0,.int .i64 0,.string ⟨#[]⟩,.slice none 0 0]),(R,[.int .i64 0,.string ⟨#[]⟩,.slice none 0 0,.int .i64 0,.int .i64 0,.int .i64 0,.slice none 0 0,.int .i64 0,.string ⟨#[]⟩,.slice none 0 0,.int .i64 0,.string ⟨#[]⟩,.int .i64 0,.int .i64 0,.string ⟨#[]⟩,.string ⟨#[]⟩,.slice none 0 0,.slice none 0 0,.slice none 0 0,.slice none 0 0,.slice none 0 0,.slice none 0 0,.int .i64 0,.string ⟨#[]⟩,.slice none 0 0]),(C,[.pointer (some ⟨B,0,none⟩)])] [] []→Calls Tryz.prog 110 #[.pointer (some ⟨B,0,none⟩),.func (.func 117) #[] #[.pointer (some ⟨C,0,none⟩),.pointer (some ⟨A,0,none⟩)]] W fun e w'=>e=.returned (.tuple #[])∧∃ ao n cp,Sr B 0 w w' s3 [(A,[.int .i64 2,.string ⟨nm.toArray⟩,.slice none 0 0,.int .i64 sc.k,.int .i64 sc.f,.int .i64 sc.l,.slice ao n cp,.int .i64 0,.string ⟨#[]⟩,.slice none 0 0,.int .i64 0,.string ⟨#[]⟩,.int .i64 0,.int .i64 0,.string ⟨#[]⟩,.string ⟨#[]⟩,.slice none 0 0,.slice none 0 0,.slice none 0 0,.slice none 0 0,.slice none 0 0,.slice none 0 0,.int .i64 0,.string ⟨#[]⟩,.slice none 0 0]),(R,[.int .i64 0,.string ⟨#[]⟩,.slice none 0 0,.int .i64 0,.int .i64 0,.int .i64 0,.slice none 0 0,.int .i64 0,.string ⟨#[]⟩,.slice none 0 0,.int .i64 0,.string ⟨#[]⟩,.int .i64 0,.int .i64 0,.string ⟨#[]⟩,.string ⟨#[]⟩,.slice none 0 0,.slice none 0 0,.slice none 0 0,.slice none 0 0,.slice none 0 0,.slice none 0 0,.int .i64 0,.string ⟨#[]⟩,.slice none 0 0]),(C,[.pointer (some ⟨B,0,none⟩)])] [([.sl 4 (ins.map inpD)],[.slice ao n cp])] []):=fun A R C W hs=>by
  have:=gather_any (Lf:=fun v=>[(A,[.int .i64 2,.string ⟨nm.toArray⟩,.slice none 0 0,.int .i64 sc.k,.int .i64 sc.f,.int .i64 sc.l,v,.int .i64 0,.string ⟨#[]⟩,.slice none 0 0,.int .i64 0,.string ⟨#[]⟩,.int .i64 0,.int .i64 0,.string ⟨#[]⟩,.string ⟨#[]⟩,.slice none 0 0,.slice none 0 0,.slice none 0 0,.slice none 0 0,.slice none 0 0,.slice none 0 0,.int .i64 0,.string ⟨#[]⟩,.slice none 0 0]),(R,[.int .i64 0,.string ⟨#[]⟩,.slice none 0 0,.int .i64 0,.int .i64 0,.int .i64 0,.slice none 0 0,.int .i64 0,.string ⟨#[]⟩,.slice none 0 0,.int .i64 0,.string ⟨#[]⟩,.int .i64 0,.int .i64 0,.string ⟨#[]⟩,.string ⟨#[]⟩,.slice none 0 0,.slice none 0 0,.slice none 0 0,.slice none 0 0,.slice none 0 0,.slice none 0 0,.int .i64 0,.string ⟨#[]⟩,.slice none 0 0]),(C,[.pointer (some ⟨B,0,none⟩)])]) (T:=102) (k:=4) (rD:=inpD) 117 (enters_of Tryz.func117 (by kernel_rfl) rfl) #[.pointer (some ⟨C,0,none⟩),.pointer (some ⟨A,0,none⟩)] inItem goes_inItem
   (fun W acc s hg=>asset1_any (us:=fun v=>[.int .i64 2,.string ⟨nm.toArray⟩,.slice none 0 0,.int .i64 sc.k,.int .i64 sc.f,.int .i64 sc.l,v,.int .i64 0,.string ⟨#[]⟩,.slice none 0 0,.int .i64 0,.string ⟨#[]⟩,.int .i64 0,.int .i64 0,.string ⟨#[]⟩,.string ⟨#[]⟩,.slice none 0 0,.slice none 0 0,.slice none 0 0,.slice none 0 0,.slice none 0 0,.slice none 0 0,.int .i64 0,.string ⟨#[]⟩,.slice none 0 0]) (ia:=0) (ic:=2) (fun _=>rfl) (fun _=>rfl) (fun _=>rfl) (fun _ _=>rfl) (mapping_any B 0) W acc s hg) W (wantP [102,114,111,109] s2) hs
  rw [h3] at this
  refine this.mono fun e w' ⟨he,ao,cp,cells,hj⟩=>?_
  exact ⟨he,_,_,_,hj.shut⟩
 clear hp h1 h2 h3 h5
 go_enter Tryz.func92,Tryz.ntmps92
 go_upto_region 6 with (first|(refine Sr.w_box (ty:=112) H.out (by rfl) rfl rfl rfl ?_;intro wn C H2;replace H:=Lib.hid H2;clear H2)|(refine Sr.w_alloc (ty:=88) H.out (by rfl) rfl zDf_ rfl ?_;intro wn Cn H2;replace H:=Lib.hid H2;clear H2)|(first|(refine St.w_load1 (ty:=112) H.out.st (by rfl) rfl rfl 1 rfl rfl uPar_ ?_)|(refine St.w_load1 (ty:=112) H.out.st (by rfl) rfl rfl 2 rfl rfl uPar_ ?_))|(go_at_call 109;(with_reducible (refine (HN.out _ H.out.pat).mono ?_));rintro e wc ⟨rfl,hK,hP⟩;have H2:=H.out.call hK hP;clear hK hP;replace H:=Lib.hid H2;clear H2)|(first|(refine Sr.w_store (ty:=88) H.out (by rfl) rfl rfl rfl 0 rfl rfl rfl sDf_ (all_one rfl) ?_;intro wn H2;replace H:=Lib.hid H2;clear H2)|(refine Sr.w_store (ty:=88) H.out (by rfl) rfl rfl rfl 1 rfl rfl rfl sDf_ (all_one rfl) ?_;intro wn H2;replace H:=Lib.hid H2;clear H2))|(first|(go_at_call 94;(with_reducible (refine (want_any s2 [102,114,111,109] _ B 0 H.out.pat).mono ?_));rintro e wc ⟨rfl,hK,hP⟩;have H2:=H.out.call hK hP;clear hK hP;replace H:=Lib.hid H2;clear H2)|(go_at_call 94;(with_reducible (refine (want_any s3 [100,111] _ B 0 H.out.pat).mono ?_));rintro e wc ⟨rfl,hK,hP⟩;have H2:=H.out.call hK hP;clear hK hP;replace H:=Lib.hid H2;clear H2))|(go_at_call 110;have hc:=HG.out _ _ _ _ H.out;(with_reducible (refine hc.mono ?_));clear hc;rintro e wc ⟨rfl,ao,n9,cp,H2⟩;replace H:=Lib.hid H2;clear H2)|(go_at_call 116;(with_reducible (refine (HSC.out _ H.out.pat).mono ?_));rintro e wc ⟨rfl,hK,hP⟩;have H2:=H.out.call hK hP;clear hK hP;replace H:=Lib.hid H2;clear H2)|(refine Sr.w_part (ty:=85) H.out (by rfl) rfl rfl rfl 0 rfl rfl (Nat.le_of_ble_eq_true rfl) sSc_ (all_one rfl) ?_;intro wn H2;replace H:=Lib.hid H2;clear H2))
 go_upto_region 7 with (first|(first|(refine St.w_load1 (ty:=112) H.out.st (by rfl) rfl rfl 1 rfl rfl uPar_ ?_)|(refine St.w_load1 (ty:=112) H.out.st (by rfl) rfl rfl 2 rfl rfl uPar_ ?_))|(go_at_call 54;(with_reducible (refine (HQ.out _ H.out.pat).mono ?_));intro e wc hR;obtain ⟨a0,n0,k0,a1,n1,k1,a2,n2,k2,a3,n3,k3,a4,n4,k4,a5,n5,k5,a6,n6,k6,rfl,hX,hK,hP⟩:=PlTo.of hR;have H2:=H.out.callR hK hP hX;clear hX hK hP hR;replace H:=Lib.hid H2;clear H2)|(refine Sr.w_part (ty:=57) (vs:=plC q (.slice a0 n0 k0) (.slice a1 n1 k1) (.slice a2 n2 k2) (.slice a3 n3 k3) (.slice a4 n4 k4) (.slice a5 n5 k5) (.slice a6 n6 k6)) H.out (by rfl) rfl rfl rfl 0 rfl rfl (Nat.le_of_ble_eq_true rfl) sPl_ (all_one rfl) ?_;intro wn H2;simp only [Pz.splice,plC,List.set_cons_zero,List.set_cons_succ] at H2;replace H:=Lib.hid H2;clear H2))
 go_wp2_with (first|(first|(refine St.w_load (ty:=88) H.out.st (by rfl) rfl rfl 0 rfl uDf_ sDf_ ?_))|(first|(refine Sr.w_store (ty:=88) H.out (by rfl) rfl rfl rfl 1 rfl rfl rfl sDf_ (all_one rfl) ?_;intro wn H2;replace H:=Lib.hid H2;clear H2)))
 refine bodyPost_ret (H.out.st.results Tryz.results92 (by rfl) 1 rfl uDf_ sDf_) rfl ?_
 rw [HE.out]
 exact H.out.rowTo' (row_df (x:=⟨2,nm,[],sc,ins,q,[],[]⟩) (Rep.nil _ _ _) (rep1 (H.out.st.rowAt (j:=1) rfl)) (H.out.st.rowAt (j:=0) rfl) (Rep.nil _ _ _))
theorem row_cut {W:World} {ok:Nat→Prop}:∀ {ds es:List Dat} {cs:List Value},Row W ok (ds++es) cs→∃ xs ys,cs=xs++ys∧Row W ok ds xs∧Row W ok es ys
 | [],es,cs,h=>⟨[],cs,rfl,Row.nil W ok,h⟩
 | d::ds,es,cs,h=>by
  obtain ⟨c,r,rfl,hc,h⟩:=Row.uncons (ds:=ds++es) h
  obtain ⟨xs,ys,rfl,h1,h2⟩:=row_cut h
  exact ⟨c::xs,ys,rfl,Row.cons hc h1,h2⟩
theorem df_open {W:World} {ok:Nat→Prop} {x:Df} {cs:List Value} (h:Row W ok (dfD x) cs):∃ (b0:Option Addr) (g0 h0:Nat) (b1:Option Addr) (g1 h1:Nat) (b2:Option Addr) (g2 h2:Nat) (a0:Option Addr) (n0 k0:Nat) (a1:Option Addr) (n1 k1:Nat) (a2:Option Addr) (n2 k2:Nat) (a3:Option Addr) (n3 k3:Nat) (a4:Option Addr) (n4 k4:Nat) (a5:Option Addr) (n5 k5:Nat) (a6:Option Addr) (n6 k6:Nat),cs=[.int .i64 x.k,.string ⟨x.nm.toArray⟩,.slice b0 g0 h0]++[.int .i64 x.sc.k,.int .i64 x.sc.f,.int .i64 x.sc.l]++[.slice b1 g1 h1]++plC x.plan (.slice a0 n0 k0) (.slice a1 n1 k1) (.slice a2 n2 k2) (.slice a3 n3 k3) (.slice a4 n4 k4) (.slice a5 n5 k5) (.slice a6 n6 k6)++[.string ⟨x.cron.toArray⟩,.slice b2 g2 h2]:=by
 unfold dfD scD at h
 simp only [List.cons_append,List.nil_append,List.append_assoc] at h
 obtain ⟨c0,r0,rfl,h0,h⟩:=h.uncons
 obtain ⟨c1,r1,rfl,h1,h⟩:=h.uncons
 obtain ⟨c2,r2,rfl,h2,h⟩:=h.uncons
 obtain ⟨c3,r3,rfl,h3,h⟩:=h.uncons
 obtain ⟨c4,r4,rfl,h4,h⟩:=h.uncons
 obtain ⟨c5,r5,rfl,h5,h⟩:=h.uncons
 obtain ⟨c6,r6,rfl,h6,h⟩:=h.uncons
 obtain ⟨pc,r7,rfl,h7,h⟩:=row_cut h
 obtain ⟨c8,r8,rfl,h8,h⟩:=h.uncons
 obtain ⟨c9,r9,rfl,h9,h⟩:=h.uncons
 obtain rfl:=h.unnil
 obtain rfl:=h0.val
 obtain rfl:=h1.val
 obtain rfl:=h3.val
 obtain rfl:=h4.val
 obtain rfl:=h5.val
 obtain rfl:=h8.val
 obtain ⟨b0,k0,rfl,_⟩:=h2.len
 obtain ⟨b1,k1,rfl,_⟩:=h6.len
 obtain ⟨b2,k2,rfl,_⟩:=h9.len
 obtain ⟨u0,m0,q0,u1,m1,q1,u2,m2,q2,u3,m3,q3,u4,m4,q4,u5,m5,q5,u6,m6,q6,rfl⟩:=pl_open h7
 exact ⟨_,_,_,_,_,_,_,_,_,_,_,_,_,_,_,_,_,_,_,_,_,_,_,_,_,_,_,_,_,_,rfl⟩
set_option maxRecDepth 100000 in
set_option maxHeartbeats 1600000 in
theorem def_0 (B:Nat) (w:World) (s s1:Ps) (hp:PAt w B 0 s) (h1:oneP defWords s=(0,s1)):Calls Tryz.prog 61 #[.pointer (some ⟨B,0,none⟩)] w (RowTo w B 0 (dfD (defP s).1) (defP s).2):=by
 have H:=Lib.hid (Sr.start hp)
 have HE:Hid (defP s=(zDf,wantP [59] s1)):=by show defP s=_;unfold defP;rw [h1];rfl
 have HO:Hid (∀ W v,PAt W B 0 s→OpsAt W B v defWords→Calls Tryz.prog 90 #[.pointer (some ⟨B,0,none⟩),v] W (OneTo W B 0 (0,s1))):=fun W v hP hO=>by
  have:=one_any defWords s v W B 0 (by decide) hP hO
  rw [h1] at this
  exact this
 clear hp h1
 go_enter Tryz.func61,Tryz.ntmps61
 go_wp2_with (first|(refine Sr.w_alloc (ty:=88) H.out (by rfl) rfl zDf_ rfl ?_;intro wn Cn H2;replace H:=Lib.hid H2;clear H2)|(refine Sr.w_lit H.out (by rfl) rfl Tryz.underlying48 iStr2_ [.string ⟨#[115,111,117,114,99,101]⟩,.string ⟨#[97,115,115,101,116]⟩,.string ⟨#[115,99,104,101,100,117,108,101]⟩] rfl rfl rfl (by decide) (by decide) (by decide) (all_k rfl) rfl ?_;intro wl Wl H2;replace H:=Lib.hid H2;clear H2)|(go_at_call 90;(with_reducible (refine (HO.out _ (.slice (some ⟨_,0,none⟩) 3 3) H.out.pat (ops_box H.out (i:=0) rfl defWords rfl rfl (by decide))).mono ?_));rintro e wc ⟨rfl,hK,hP⟩;have H2:=H.out.call hK hP;clear hK hP;replace H:=Lib.hid H2;clear H2)|(go_at_call 94;(with_reducible (refine (want_any s1 [59] _ B 0 H.out.pat).mono ?_));rintro e wc ⟨rfl,hK,hP⟩;have H2:=H.out.call hK hP;clear hK hP;replace H:=Lib.hid H2;clear H2)|(first|(refine Sr.w_store (ty:=88) H.out (by rfl) rfl rfl rfl 1 rfl rfl rfl sDf_ (all_one rfl) ?_;intro wn H2;replace H:=Lib.hid H2;clear H2)|(refine Sr.w_store (ty:=88) H.out (by rfl) rfl rfl rfl 2 rfl rfl rfl sDf_ (all_one rfl) ?_;intro wn H2;replace H:=Lib.hid H2;clear H2))|(first|(refine St.w_load (ty:=88) H.out.st (by rfl) rfl rfl 1 rfl uDf_ sDf_ ?_)))
 refine bodyPost_ret (H.out.st.results Tryz.results61 (by rfl) 2 rfl uDf_ sDf_) rfl ?_
 rw [HE.out]
 exact H.out.rowTo' (row_df (x:=zDf) (Rep.nil _ _ _) (Rep.nil _ _ _) (row_zPl _ _) (Rep.nil _ _ _))
set_option maxRecDepth 100000 in
set_option maxHeartbeats 1600000 in
theorem def_1 (B:Nat) (w:World) (s s1:Ps) (hp:PAt w B 0 s) (h1:oneP defWords s=(1,s1)):Calls Tryz.prog 61 #[.pointer (some ⟨B,0,none⟩)] w (RowTo w B 0 (dfD (defP s).1) (defP s).2):=by
 have H:=Lib.hid (Sr.start hp)
 have HE:Hid (defP s=((sourceP s1).1,wantP [59] (sourceP s1).2)):=by show defP s=_;unfold defP;rw [h1];rfl
 have HO:Hid (∀ W v,PAt W B 0 s→OpsAt W B v defWords→Calls Tryz.prog 90 #[.pointer (some ⟨B,0,none⟩),v] W (OneTo W B 0 (1,s1))):=fun W v hP hO=>by
  have:=one_any defWords s v W B 0 (by decide) hP hO
  rw [h1] at this
  exact this
 clear hp h1
 go_enter Tryz.func61,Tryz.ntmps61
 go_wp2_with (first|(refine Sr.w_alloc (ty:=88) H.out (by rfl) rfl zDf_ rfl ?_;intro wn Cn H2;replace H:=Lib.hid H2;clear H2)|(refine Sr.w_lit H.out (by rfl) rfl Tryz.underlying48 iStr2_ [.string ⟨#[115,111,117,114,99,101]⟩,.string ⟨#[97,115,115,101,116]⟩,.string ⟨#[115,99,104,101,100,117,108,101]⟩] rfl rfl rfl (by decide) (by decide) (by decide) (all_k rfl) rfl ?_;intro wl Wl H2;replace H:=Lib.hid H2;clear H2)|(go_at_call 90;(with_reducible (refine (HO.out _ (.slice (some ⟨_,0,none⟩) 3 3) H.out.pat (ops_box H.out (i:=0) rfl defWords rfl rfl (by decide))).mono ?_));rintro e wc ⟨rfl,hK,hP⟩;have H2:=H.out.call hK hP;clear hK hP;replace H:=Lib.hid H2;clear H2)|(go_at_call 91;(with_reducible (refine (source_any B 0 _ s1 H.out.pat).mono ?_));rintro e wc ⟨cs,rfl,hX,hK,hP⟩;obtain ⟨b0,g0,h0,b1,g1,h1,b2,g2,h2,a0,n0,k0,a1,n1,k1,a2,n2,k2,a3,n3,k3,a4,n4,k4,a5,n5,k5,a6,n6,k6,rfl⟩:=df_open hX;have H2:=H.out.callR hK hP hX;clear hX hK hP;replace H:=Lib.hid H2;clear H2)|(go_at_call 94;(with_reducible (refine (want_any (sourceP s1).2 [59] _ B 0 H.out.pat).mono ?_));rintro e wc ⟨rfl,hK,hP⟩;have H2:=H.out.call hK hP;clear hK hP;replace H:=Lib.hid H2;clear H2)|(first|(refine Sr.w_store (ty:=88) H.out (by rfl) rfl rfl rfl 1 rfl rfl rfl sDf_ (all_one rfl) ?_;intro wn H2;replace H:=Lib.hid H2;clear H2)|(refine Sr.w_store (ty:=88) H.out (by rfl) rfl rfl rfl 2 rfl rfl rfl sDf_ (all_one rfl) ?_;intro wn H2;replace H:=Lib.hid H2;clear H2))|(first|(refine St.w_load (ty:=88) H.out.st (by rfl) rfl rfl 1 rfl uDf_ sDf_ ?_)))
 refine bodyPost_ret (H.out.st.results Tryz.results61 (by rfl) 2 rfl uDf_ sDf_) rfl ?_
 rw [HE.out]
 exact H.out.rowTo (j:=0) rfl
set_option maxRecDepth 100000 in
set_option maxHeartbeats 1600000 in
theorem def_2 (B:Nat) (w:World) (s s1:Ps) (hp:PAt w B 0 s) (h1:oneP defWords s=(2,s1)):Calls Tryz.prog 61 #[.pointer (some ⟨B,0,none⟩)] w (RowTo w B 0 (dfD (defP s).1) (defP s).2):=by
 have H:=Lib.hid (Sr.start hp)
 have HE:Hid (defP s=((assetP s1).1,wantP [59] (assetP s1).2)):=by show defP s=_;unfold defP;rw [h1];rfl
 have HO:Hid (∀ W v,PAt W B 0 s→OpsAt W B v defWords→Calls Tryz.prog 90 #[.pointer (some ⟨B,0,none⟩),v] W (OneTo W B 0 (2,s1))):=fun W v hP hO=>by
  have:=one_any defWords s v W B 0 (by decide) hP hO
  rw [h1] at this
  exact this
 clear hp h1
 go_enter Tryz.func61,Tryz.ntmps61
 go_wp2_with (first|(refine Sr.w_alloc (ty:=88) H.out (by rfl) rfl zDf_ rfl ?_;intro wn Cn H2;replace H:=Lib.hid H2;clear H2)|(refine Sr.w_lit H.out (by rfl) rfl Tryz.underlying48 iStr2_ [.string ⟨#[115,111,117,114,99,101]⟩,.string ⟨#[97,115,115,101,116]⟩,.string ⟨#[115,99,104,101,100,117,108,101]⟩] rfl rfl rfl (by decide) (by decide) (by decide) (all_k rfl) rfl ?_;intro wl Wl H2;replace H:=Lib.hid H2;clear H2)|(go_at_call 90;(with_reducible (refine (HO.out _ (.slice (some ⟨_,0,none⟩) 3 3) H.out.pat (ops_box H.out (i:=0) rfl defWords rfl rfl (by decide))).mono ?_));rintro e wc ⟨rfl,hK,hP⟩;have H2:=H.out.call hK hP;clear hK hP;replace H:=Lib.hid H2;clear H2)|(go_at_call 92;(with_reducible (refine (asset_any B _ s1 H.out.pat).mono ?_));rintro e wc ⟨cs,rfl,hX,hK,hP⟩;obtain ⟨b0,g0,h0,b1,g1,h1,b2,g2,h2,a0,n0,k0,a1,n1,k1,a2,n2,k2,a3,n3,k3,a4,n4,k4,a5,n5,k5,a6,n6,k6,rfl⟩:=df_open hX;have H2:=H.out.callR hK hP hX;clear hX hK hP;replace H:=Lib.hid H2;clear H2)|(go_at_call 94;(with_reducible (refine (want_any (assetP s1).2 [59] _ B 0 H.out.pat).mono ?_));rintro e wc ⟨rfl,hK,hP⟩;have H2:=H.out.call hK hP;clear hK hP;replace H:=Lib.hid H2;clear H2)|(first|(refine Sr.w_store (ty:=88) H.out (by rfl) rfl rfl rfl 1 rfl rfl rfl sDf_ (all_one rfl) ?_;intro wn H2;replace H:=Lib.hid H2;clear H2)|(refine Sr.w_store (ty:=88) H.out (by rfl) rfl rfl rfl 2 rfl rfl rfl sDf_ (all_one rfl) ?_;intro wn H2;replace H:=Lib.hid H2;clear H2))|(first|(refine St.w_load (ty:=88) H.out.st (by rfl) rfl rfl 1 rfl uDf_ sDf_ ?_)))
 refine bodyPost_ret (H.out.st.results Tryz.results61 (by rfl) 2 rfl uDf_ sDf_) rfl ?_
 rw [HE.out]
 exact H.out.rowTo (j:=0) rfl
set_option maxRecDepth 100000 in
set_option maxHeartbeats 1600000 in
theorem def_3 (B:Nat) (w:World) (s s1:Ps) (hp:PAt w B 0 s) (h1:oneP defWords s=(3,s1)):Calls Tryz.prog 61 #[.pointer (some ⟨B,0,none⟩)] w (RowTo w B 0 (dfD (defP s).1) (defP s).2):=by
 have H:=Lib.hid (Sr.start hp)
 have HE:Hid (defP s=((scheduleP s1).1,wantP [59] (scheduleP s1).2)):=by show defP s=_;unfold defP;rw [h1];rfl
 have HO:Hid (∀ W v,PAt W B 0 s→OpsAt W B v defWords→Calls Tryz.prog 90 #[.pointer (some ⟨B,0,none⟩),v] W (OneTo W B 0 (3,s1))):=fun W v hP hO=>by
  have:=one_any defWords s v W B 0 (by decide) hP hO
  rw [h1] at this
  exact this
 clear hp h1
 go_enter Tryz.func61,Tryz.ntmps61
 go_wp2_with (first|(refine Sr.w_alloc (ty:=88) H.out (by rfl) rfl zDf_ rfl ?_;intro wn Cn H2;replace H:=Lib.hid H2;clear H2)|(refine Sr.w_lit H.out (by rfl) rfl Tryz.underlying48 iStr2_ [.string ⟨#[115,111,117,114,99,101]⟩,.string ⟨#[97,115,115,101,116]⟩,.string ⟨#[115,99,104,101,100,117,108,101]⟩] rfl rfl rfl (by decide) (by decide) (by decide) (all_k rfl) rfl ?_;intro wl Wl H2;replace H:=Lib.hid H2;clear H2)|(go_at_call 90;(with_reducible (refine (HO.out _ (.slice (some ⟨_,0,none⟩) 3 3) H.out.pat (ops_box H.out (i:=0) rfl defWords rfl rfl (by decide))).mono ?_));rintro e wc ⟨rfl,hK,hP⟩;have H2:=H.out.call hK hP;clear hK hP;replace H:=Lib.hid H2;clear H2)|(go_at_call 93;(with_reducible (refine (schedule_any B 0 _ s1 H.out.pat).mono ?_));rintro e wc ⟨cs,rfl,hX,hK,hP⟩;obtain ⟨b0,g0,h0,b1,g1,h1,b2,g2,h2,a0,n0,k0,a1,n1,k1,a2,n2,k2,a3,n3,k3,a4,n4,k4,a5,n5,k5,a6,n6,k6,rfl⟩:=df_open hX;have H2:=H.out.callR hK hP hX;clear hX hK hP;replace H:=Lib.hid H2;clear H2)|(go_at_call 94;(with_reducible (refine (want_any (scheduleP s1).2 [59] _ B 0 H.out.pat).mono ?_));rintro e wc ⟨rfl,hK,hP⟩;have H2:=H.out.call hK hP;clear hK hP;replace H:=Lib.hid H2;clear H2)|(first|(refine Sr.w_store (ty:=88) H.out (by rfl) rfl rfl rfl 1 rfl rfl rfl sDf_ (all_one rfl) ?_;intro wn H2;replace H:=Lib.hid H2;clear H2)|(refine Sr.w_store (ty:=88) H.out (by rfl) rfl rfl rfl 2 rfl rfl rfl sDf_ (all_one rfl) ?_;intro wn H2;replace H:=Lib.hid H2;clear H2))|(first|(refine St.w_load (ty:=88) H.out.st (by rfl) rfl rfl 1 rfl uDf_ sDf_ ?_)))
 refine bodyPost_ret (H.out.st.results Tryz.results61 (by rfl) 2 rfl uDf_ sDf_) rfl ?_
 rw [HE.out]
 exact H.out.rowTo (j:=0) rfl
theorem def_any (B:Nat):DfOk 61 defP B 0:=fun w s hp=>by
 have hk:(oneP defWords s).1≤3:=by
  unfold oneP
  rw [oneFrom_is]
  cases hf:firstOp defWords s with
  | none=>exact Nat.zero_le _
  | some k =>
   have:=(firstOp_some hf).1
   have e:defWords.length=3:=rfl
   show 1+k≤3
   omega
 obtain ⟨⟨n,s1⟩,h1⟩:∃ r,oneP defWords s=r:=⟨_,rfl⟩
 rw [h1] at hk
 change n≤3 at hk
 match n,hk with
 | 0,_=>exact def_0 B w s s1 hp h1
 | 1,_=>exact def_1 B w s s1 hp h1
 | 2,_=>exact def_2 B w s s1 hp h1
 | 3,_=>exact def_3 B w s s1 hp h1
 | n+4,hk=>omega
end Go.Proofs.YtonkjhmkppeagaaGreatDoor.Pz
