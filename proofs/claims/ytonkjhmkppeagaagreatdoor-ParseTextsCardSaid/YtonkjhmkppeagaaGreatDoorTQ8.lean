/- Walks: a step over a plan. -/
import Derived.Test.YtonkjhmkppeagaaGreatDoorTQ7
set_option linter.unusedVariables false
set_option linter.unusedSimpArgs false
namespace Go.Proofs.YtonkjhmkppeagaaGreatDoor.Pz
open Go.RowKit Go Go.Sort Ba Lx
theorem row_args2 {W:World} {ok:Nat→Prop} {x:Ex} {sl:Value} (h:Row W ok (exD x) (exC x sl)):XArgs W ok sl x.xs:=by
 rw [exD_eq] at h
 exact h.2 6 _ _ rfl rfl
set_option maxRecDepth 100000 in
set_option maxHeartbeats 1600000 in
theorem step_0 (dp:PQ) {B d:Nat} (hd:QOk 87 (partP dp) B d) {w0:World} {L:List Bx} {D:List (List Dat × List Value)} {O:List Ow} (over:Pl) (u0:Option Addr) (m0 q0:Nat) (u1:Option Addr) (m1 q1:Nat) (u2:Option Addr) (m2 q2:Nat) (u3:Option Addr) (m3 q3:Nat) (u4:Option Addr) (m4 q4:Nat) (u5:Option Addr) (m5 q5:Nat) (u6:Option Addr) (m6 q6:Nat) (j:Nat) (hj:D[j]?=some (plD over,(plC over (.slice u0 m0 q0) (.slice u1 m1 q1) (.slice u2 m2 q2) (.slice u3 m3 q3) (.slice u4 m4 q4) (.slice u5 m5 q5) (.slice u6 m6 q6)))) (w:World) (s s1:Ps) (h1:oneP stepWords s=(0,s1)) (h:Sr B d w0 w s L D O) :
 Calls Tryz.prog 89 #[.pointer (some ⟨B,0,none⟩),.agg (plC over (.slice u0 m0 q0) (.slice u1 m1 q1) (.slice u2 m2 q2) (.slice u3 m3 q3) (.slice u4 m4 q4) (.slice u5 m5 q5) (.slice u6 m6 q6)).toArray] w fun e w'=>∃ cs',e=.returned (.agg cs'.toArray)∧Sr B d w0 w' (stepP dp over s).2 L ((plD (stepP dp over s).1,cs')::D) O:=by
 have H:=Lib.hid h
 have HD:=Lib.hid hd
 have HO:Hid (∀ W v,PAt W B d s→OpsAt W B v stepWords→Calls Tryz.prog 90 #[.pointer (some ⟨B,0,none⟩),v] W (OneTo W B d (0,s1))):=fun W v hP hO=>by
  have:=one_any stepWords s v W B d (by decide) hP hO
  rw [h1] at this
  exact this
 have HE:Hid (stepP dp over s=(.mk 0 [] [over] zEx [] [] [] [] [] 0,s1)):=by show stepP dp over s=_;unfold stepP;rw [h1];rfl
 clear h hd h1
 go_enter Tryz.func89,Tryz.ntmps89
 go_wp2_with (first|(refine Sr.w_box (ty:=112) H.out (by rfl) rfl rfl rfl ?_;intro wn C H2;replace H:=Lib.hid H2;clear H2)|(refine Sr.w_box (ty:=57) H.out (by rfl) rfl rfl rfl ?_;intro wn V H2;replace H:=Lib.hid H2;clear H2)|(refine Sr.w_alloc (ty:=57) H.out (by rfl) rfl zPl_ rfl ?_;(first|(have hh:Nat:=Lb;clear hh;intro wn A H2)|(intro wn R H2));replace H:=Lib.hid H2;clear H2)|(first|(refine St.w_load (ty:=57) H.out.st (by rfl) rfl rfl 1 rfl uPl_ sPl_ ?_))|(refine Sr.w_litO1 (r:=plD over) H.out (by rfl) rfl Tryz.underlying52 iPl2_ rfl rfl (by decide) (by decide) rfl rfl (plD_len _) (H.out.st.rowAt hj) ?_;intro wl Lb H2;replace H:=Lib.hid H2;clear H2)|(first|(refine Sr.w_store (ty:=57) H.out (by rfl) rfl rfl rfl 0 rfl rfl rfl sPl_ (all_one rfl) ?_;intro wn H2;replace H:=Lib.hid H2;clear H2)|(refine Sr.w_store (ty:=57) H.out (by rfl) rfl rfl rfl 2 rfl rfl rfl sPl_ (all_one rfl) ?_;intro wn H2;replace H:=Lib.hid H2;clear H2))|(first|(refine St.w_load1 (ty:=112) H.out.st (by rfl) rfl rfl 3 rfl rfl uPar_ ?_)|(refine St.w_load1 (ty:=112) H.out.st (by rfl) rfl rfl 4 rfl rfl uPar_ ?_))|(refine Sr.w_lit H.out (by rfl) rfl Tryz.underlying48 iStr2_ [.string ⟨#[119,104,101,114,101]⟩,.string ⟨#[107,101,101,112]⟩,.string ⟨#[106,111,105,110]⟩,.string ⟨#[108,101,102,116]⟩,.string ⟨#[103,114,111,117,112]⟩,.string ⟨#[117,110,105,111,110]⟩,.string ⟨#[100,105,115,116,105,110,99,116]⟩,.string ⟨#[102,105,114,115,116]⟩] rfl rfl rfl (by decide) (by decide) (by decide) (all_k rfl) rfl ?_;intro wl Wl H2;replace H:=Lib.hid H2;clear H2)|(go_at_call 90;(with_reducible (refine (HO.out _ (.slice (some ⟨_,0,none⟩) 8 8) H.out.pat (ops_box H.out (i:=0) rfl stepWords rfl rfl (by decide))).mono ?_));rintro e wc ⟨rfl,hK,hP⟩;have H2:=H.out.call hK hP;clear hK hP;replace H:=Lib.hid H2;clear H2)|(refine Sr.w_store1 (ty:=3) H.out (by rfl) rfl rfl rfl 1 rfl (Nat.le_of_ble_eq_true rfl) sInt_ rfl ?_;intro wn H2;replace H:=Lib.hid H2;clear H2))
 refine bodyPost_ret (H.out.st.results Tryz.results89 (by rfl) 2 rfl uPl_ sPl_) rfl ?_
 have H3:=H.out.shut
 have hr:=row_pl (x:=.mk 0 [] [over] zEx [] [] [] [] [] 0) ⟨(by show Rep _ _ (.sl 16 (plDs [over])) _;rw [plDs_map];exact rep1 (H3.st.rowAt (j:=0) rfl)),(by show Rep _ _ (.sl 7 (exDs [])) _;rw [exDs];exact Rep.nil _ _ _),(Rep.nil _ _ _),(by show Rep _ _ (.sl 7 (exDs [])) _;rw [exDs];exact Rep.nil _ _ _),(Rep.nil _ _ _),(Rep.nil _ _ _),(Rep.nil _ _ _)⟩
 have H4:=(H3.put hr).drop (.cons _ (.cons _ (.cons _ (.cons _ (.cons _ (List.Sublist.refl _))))))
 rw [HE.out]
 exact ⟨_,rfl,H4.less (by intro q hq;rcases List.mem_cons.1 hq with rfl|hq;exact List.mem_cons_self;exact List.mem_cons_of_mem _ (List.mem_cons_of_mem _ hq))⟩
set_option maxRecDepth 100000 in
set_option maxHeartbeats 1600000 in
theorem step_7 (dp:PQ) {B d:Nat} (hd:QOk 87 (partP dp) B d) {w0:World} {L:List Bx} {D:List (List Dat × List Value)} {O:List Ow} (over:Pl) (u0:Option Addr) (m0 q0:Nat) (u1:Option Addr) (m1 q1:Nat) (u2:Option Addr) (m2 q2:Nat) (u3:Option Addr) (m3 q3:Nat) (u4:Option Addr) (m4 q4:Nat) (u5:Option Addr) (m5 q5:Nat) (u6:Option Addr) (m6 q6:Nat) (j:Nat) (hj:D[j]?=some (plD over,(plC over (.slice u0 m0 q0) (.slice u1 m1 q1) (.slice u2 m2 q2) (.slice u3 m3 q3) (.slice u4 m4 q4) (.slice u5 m5 q5) (.slice u6 m6 q6)))) (w:World) (s s1:Ps) (h1:oneP stepWords s=(7,s1)) (h:Sr B d w0 w s L D O) :
 Calls Tryz.prog 89 #[.pointer (some ⟨B,0,none⟩),.agg (plC over (.slice u0 m0 q0) (.slice u1 m1 q1) (.slice u2 m2 q2) (.slice u3 m3 q3) (.slice u4 m4 q4) (.slice u5 m5 q5) (.slice u6 m6 q6)).toArray] w fun e w'=>∃ cs',e=.returned (.agg cs'.toArray)∧Sr B d w0 w' (stepP dp over s).2 L ((plD (stepP dp over s).1,cs')::D) O:=by
 have H:=Lib.hid h
 have HD:=Lib.hid hd
 have HO:Hid (∀ W v,PAt W B d s→OpsAt W B v stepWords→Calls Tryz.prog 90 #[.pointer (some ⟨B,0,none⟩),v] W (OneTo W B d (7,s1))):=fun W v hP hO=>by
  have:=one_any stepWords s v W B d (by decide) hP hO
  rw [h1] at this
  exact this
 have HE:Hid (stepP dp over s=(.mk 8 [] [over] zEx [] [] [] [] [] 0,s1)):=by show stepP dp over s=_;unfold stepP;rw [h1];rfl
 clear h hd h1
 go_enter Tryz.func89,Tryz.ntmps89
 go_wp2_with (first|(refine Sr.w_box (ty:=112) H.out (by rfl) rfl rfl rfl ?_;intro wn C H2;replace H:=Lib.hid H2;clear H2)|(refine Sr.w_box (ty:=57) H.out (by rfl) rfl rfl rfl ?_;intro wn V H2;replace H:=Lib.hid H2;clear H2)|(refine Sr.w_alloc (ty:=57) H.out (by rfl) rfl zPl_ rfl ?_;(first|(have hh:Nat:=Lb;clear hh;intro wn A H2)|(intro wn R H2));replace H:=Lib.hid H2;clear H2)|(first|(refine St.w_load (ty:=57) H.out.st (by rfl) rfl rfl 1 rfl uPl_ sPl_ ?_))|(refine Sr.w_litO1 (r:=plD over) H.out (by rfl) rfl Tryz.underlying52 iPl2_ rfl rfl (by decide) (by decide) rfl rfl (plD_len _) (H.out.st.rowAt hj) ?_;intro wl Lb H2;replace H:=Lib.hid H2;clear H2)|(first|(refine Sr.w_store (ty:=57) H.out (by rfl) rfl rfl rfl 0 rfl rfl rfl sPl_ (all_one rfl) ?_;intro wn H2;replace H:=Lib.hid H2;clear H2)|(refine Sr.w_store (ty:=57) H.out (by rfl) rfl rfl rfl 2 rfl rfl rfl sPl_ (all_one rfl) ?_;intro wn H2;replace H:=Lib.hid H2;clear H2))|(first|(refine St.w_load1 (ty:=112) H.out.st (by rfl) rfl rfl 3 rfl rfl uPar_ ?_)|(refine St.w_load1 (ty:=112) H.out.st (by rfl) rfl rfl 4 rfl rfl uPar_ ?_))|(refine Sr.w_lit H.out (by rfl) rfl Tryz.underlying48 iStr2_ [.string ⟨#[119,104,101,114,101]⟩,.string ⟨#[107,101,101,112]⟩,.string ⟨#[106,111,105,110]⟩,.string ⟨#[108,101,102,116]⟩,.string ⟨#[103,114,111,117,112]⟩,.string ⟨#[117,110,105,111,110]⟩,.string ⟨#[100,105,115,116,105,110,99,116]⟩,.string ⟨#[102,105,114,115,116]⟩] rfl rfl rfl (by decide) (by decide) (by decide) (all_k rfl) rfl ?_;intro wl Wl H2;replace H:=Lib.hid H2;clear H2)|(go_at_call 90;(with_reducible (refine (HO.out _ (.slice (some ⟨_,0,none⟩) 8 8) H.out.pat (ops_box H.out (i:=0) rfl stepWords rfl rfl (by decide))).mono ?_));rintro e wc ⟨rfl,hK,hP⟩;have H2:=H.out.call hK hP;clear hK hP;replace H:=Lib.hid H2;clear H2)|(refine Sr.w_store1 (ty:=3) H.out (by rfl) rfl rfl rfl 1 rfl (Nat.le_of_ble_eq_true rfl) sInt_ rfl ?_;intro wn H2;replace H:=Lib.hid H2;clear H2))
 refine bodyPost_ret (H.out.st.results Tryz.results89 (by rfl) 2 rfl uPl_ sPl_) rfl ?_
 have H3:=H.out.shut
 have hr:=row_pl (x:=.mk 8 [] [over] zEx [] [] [] [] [] 0) ⟨(by show Rep _ _ (.sl 16 (plDs [over])) _;rw [plDs_map];exact rep1 (H3.st.rowAt (j:=0) rfl)),(by show Rep _ _ (.sl 7 (exDs [])) _;rw [exDs];exact Rep.nil _ _ _),(Rep.nil _ _ _),(by show Rep _ _ (.sl 7 (exDs [])) _;rw [exDs];exact Rep.nil _ _ _),(Rep.nil _ _ _),(Rep.nil _ _ _),(Rep.nil _ _ _)⟩
 have H4:=(H3.put hr).drop (.cons _ (.cons _ (.cons _ (.cons _ (.cons _ (List.Sublist.refl _))))))
 rw [HE.out]
 exact ⟨_,rfl,H4.less (by intro q hq;rcases List.mem_cons.1 hq with rfl|hq;exact List.mem_cons_self;exact List.mem_cons_of_mem _ (List.mem_cons_of_mem _ hq))⟩
set_option maxRecDepth 100000 in
set_option maxHeartbeats 1600000 in
theorem step_1 (dp:PQ) {B d:Nat} (hd:QOk 87 (partP dp) B d) {w0:World} {L:List Bx} {D:List (List Dat × List Value)} {O:List Ow} (over:Pl) (u0:Option Addr) (m0 q0:Nat) (u1:Option Addr) (m1 q1:Nat) (u2:Option Addr) (m2 q2:Nat) (u3:Option Addr) (m3 q3:Nat) (u4:Option Addr) (m4 q4:Nat) (u5:Option Addr) (m5 q5:Nat) (u6:Option Addr) (m6 q6:Nat) (j:Nat) (hj:D[j]?=some (plD over,(plC over (.slice u0 m0 q0) (.slice u1 m1 q1) (.slice u2 m2 q2) (.slice u3 m3 q3) (.slice u4 m4 q4) (.slice u5 m5 q5) (.slice u6 m6 q6)))) (w:World) (s s1:Ps) (h1:oneP stepWords s=(1,s1)) (h:Sr B d w0 w s L D O) :
 Calls Tryz.prog 89 #[.pointer (some ⟨B,0,none⟩),.agg (plC over (.slice u0 m0 q0) (.slice u1 m1 q1) (.slice u2 m2 q2) (.slice u3 m3 q3) (.slice u4 m4 q4) (.slice u5 m5 q5) (.slice u6 m6 q6)).toArray] w fun e w'=>∃ cs',e=.returned (.agg cs'.toArray)∧Sr B d w0 w' (stepP dp over s).2 L ((plD (stepP dp over s).1,cs')::D) O:=by
 have H:=Lib.hid h
 have HD:=Lib.hid hd
 have HO:Hid (∀ W v,PAt W B d s→OpsAt W B v stepWords→Calls Tryz.prog 90 #[.pointer (some ⟨B,0,none⟩),v] W (OneTo W B d (1,s1))):=fun W v hP hO=>by
  have:=one_any stepWords s v W B d (by decide) hP hO
  rw [h1] at this
  exact this
 have HE:Hid (stepP dp over s=(.mk 2 [] [over] (wholeP s1).1 [] [] [] [] [] 0,(wholeP s1).2)):=by show stepP dp over s=_;unfold stepP;rw [h1];rfl
 clear h hd h1
 go_enter Tryz.func89,Tryz.ntmps89
 go_wp2_with (first|(refine Sr.w_box (ty:=112) H.out (by rfl) rfl rfl rfl ?_;intro wn C H2;replace H:=Lib.hid H2;clear H2)|(refine Sr.w_box (ty:=57) H.out (by rfl) rfl rfl rfl ?_;intro wn V H2;replace H:=Lib.hid H2;clear H2)|(refine Sr.w_alloc (ty:=57) H.out (by rfl) rfl zPl_ rfl ?_;(first|(have hh:Nat:=Lb;clear hh;intro wn A H2)|(intro wn R H2));replace H:=Lib.hid H2;clear H2)|(first|(refine St.w_load (ty:=57) H.out.st (by rfl) rfl rfl 1 rfl uPl_ sPl_ ?_))|(refine Sr.w_litO1 (r:=plD over) H.out (by rfl) rfl Tryz.underlying52 iPl2_ rfl rfl (by decide) (by decide) rfl rfl (plD_len _) (H.out.st.rowAt hj) ?_;intro wl Lb H2;replace H:=Lib.hid H2;clear H2)|(first|(refine Sr.w_store (ty:=57) H.out (by rfl) rfl rfl rfl 0 rfl rfl rfl sPl_ (all_one rfl) ?_;intro wn H2;replace H:=Lib.hid H2;clear H2)|(refine Sr.w_store (ty:=57) H.out (by rfl) rfl rfl rfl 2 rfl rfl rfl sPl_ (all_one rfl) ?_;intro wn H2;replace H:=Lib.hid H2;clear H2))|(first|(refine St.w_load1 (ty:=112) H.out.st (by rfl) rfl rfl 3 rfl rfl uPar_ ?_)|(refine St.w_load1 (ty:=112) H.out.st (by rfl) rfl rfl 4 rfl rfl uPar_ ?_))|(refine Sr.w_lit H.out (by rfl) rfl Tryz.underlying48 iStr2_ [.string ⟨#[119,104,101,114,101]⟩,.string ⟨#[107,101,101,112]⟩,.string ⟨#[106,111,105,110]⟩,.string ⟨#[108,101,102,116]⟩,.string ⟨#[103,114,111,117,112]⟩,.string ⟨#[117,110,105,111,110]⟩,.string ⟨#[100,105,115,116,105,110,99,116]⟩,.string ⟨#[102,105,114,115,116]⟩] rfl rfl rfl (by decide) (by decide) (by decide) (all_k rfl) rfl ?_;intro wl Wl H2;replace H:=Lib.hid H2;clear H2)|(go_at_call 90;(with_reducible (refine (HO.out _ (.slice (some ⟨_,0,none⟩) 8 8) H.out.pat (ops_box H.out (i:=0) rfl stepWords rfl rfl (by decide))).mono ?_));rintro e wc ⟨rfl,hK,hP⟩;have H2:=H.out.call hK hP;clear hK hP;replace H:=Lib.hid H2;clear H2)|(refine Sr.w_store1 (ty:=3) H.out (by rfl) rfl rfl rfl 1 rfl (Nat.le_of_ble_eq_true rfl) sInt_ rfl ?_;intro wn H2;replace H:=Lib.hid H2;clear H2)|(go_at_call 45;(with_reducible (refine (whole_any _ s1 B d H.out.pat).mono ?_));rintro e wc ⟨ax,cx,rfl,hX,hK,hP⟩;have H2:=H.out.callR hK hP (row_ex hX);clear hX hK hP;replace H:=Lib.hid H2;clear H2)|(refine Sr.w_part (ty:=27) H.out (by rfl) rfl rfl rfl 1 rfl rfl (Nat.le_of_ble_eq_true rfl) sEx_ (all_one rfl) ?_;intro wn H2;replace H:=Lib.hid H2;clear H2))
 refine bodyPost_ret (H.out.st.results Tryz.results89 (by rfl) 2 rfl uPl_ sPl_) rfl ?_
 have H3:=H.out.shut
 have hr:=row_pl (x:=.mk 2 [] [over] (wholeP s1).1 [] [] [] [] [] 0) ⟨(by show Rep _ _ (.sl 16 (plDs [over])) _;rw [plDs_map];exact rep1 (H3.st.rowAt (j:=0) rfl)),(row_args2 (H3.st.rowAt (j:=1) rfl)),(Rep.nil _ _ _),(by show Rep _ _ (.sl 7 (exDs [])) _;rw [exDs];exact Rep.nil _ _ _),(Rep.nil _ _ _),(Rep.nil _ _ _),(Rep.nil _ _ _)⟩
 have H4:=(H3.put hr).drop (.cons _ (.cons _ (.cons _ (.cons _ (.cons _ (List.Sublist.refl _))))))
 rw [HE.out]
 exact ⟨_,rfl,H4.less (by intro q hq;rcases List.mem_cons.1 hq with rfl|hq;exact List.mem_cons_self;exact List.mem_cons_of_mem _ (List.mem_cons_of_mem _ (List.mem_cons_of_mem _ (hq))))⟩
set_option maxRecDepth 100000 in
set_option maxHeartbeats 1600000 in
theorem step_3 (dp:PQ) {B d:Nat} (hd:QOk 87 (partP dp) B d) {w0:World} {L:List Bx} {D:List (List Dat × List Value)} {O:List Ow} (over:Pl) (u0:Option Addr) (m0 q0:Nat) (u1:Option Addr) (m1 q1:Nat) (u2:Option Addr) (m2 q2:Nat) (u3:Option Addr) (m3 q3:Nat) (u4:Option Addr) (m4 q4:Nat) (u5:Option Addr) (m5 q5:Nat) (u6:Option Addr) (m6 q6:Nat) (j:Nat) (hj:D[j]?=some (plD over,(plC over (.slice u0 m0 q0) (.slice u1 m1 q1) (.slice u2 m2 q2) (.slice u3 m3 q3) (.slice u4 m4 q4) (.slice u5 m5 q5) (.slice u6 m6 q6)))) (w:World) (s s1:Ps) (h1:oneP stepWords s=(3,s1)) (h:Sr B d w0 w s L D O) :
 Calls Tryz.prog 89 #[.pointer (some ⟨B,0,none⟩),.agg (plC over (.slice u0 m0 q0) (.slice u1 m1 q1) (.slice u2 m2 q2) (.slice u3 m3 q3) (.slice u4 m4 q4) (.slice u5 m5 q5) (.slice u6 m6 q6)).toArray] w fun e w'=>∃ cs',e=.returned (.agg cs'.toArray)∧Sr B d w0 w' (stepP dp over s).2 L ((plD (stepP dp over s).1,cs')::D) O:=by
 have H:=Lib.hid h
 have HD:=Lib.hid hd
 have HO:Hid (∀ W v,PAt W B d s→OpsAt W B v stepWords→Calls Tryz.prog 90 #[.pointer (some ⟨B,0,none⟩),v] W (OneTo W B d (3,s1))):=fun W v hP hO=>by
  have:=one_any stepWords s v W B d (by decide) hP hO
  rw [h1] at this
  exact this
 have HE:Hid (stepP dp over s=(.mk 4 [] [over,(joinP dp s1).1.1] zEx [] [] (joinP dp s1).1.2 [] [] 0,(joinP dp s1).2)):=by show stepP dp over s=_;unfold stepP;rw [h1];rfl
 clear h hd h1
 go_enter Tryz.func89,Tryz.ntmps89
 go_wp2_with (first|(refine Sr.w_box (ty:=112) H.out (by rfl) rfl rfl rfl ?_;intro wn C H2;replace H:=Lib.hid H2;clear H2)|(refine Sr.w_box (ty:=57) H.out (by rfl) rfl rfl rfl ?_;intro wn V H2;replace H:=Lib.hid H2;clear H2)|(refine Sr.w_alloc (ty:=57) H.out (by rfl) rfl zPl_ rfl ?_;(first|(have hh:Nat:=Lb;clear hh;intro wn A H2)|(intro wn R H2));replace H:=Lib.hid H2;clear H2)|(first|(refine St.w_load (ty:=57) H.out.st (by rfl) rfl rfl 1 rfl uPl_ sPl_ ?_))|(refine Sr.w_litO1 (r:=plD over) H.out (by rfl) rfl Tryz.underlying52 iPl2_ rfl rfl (by decide) (by decide) rfl rfl (plD_len _) (H.out.st.rowAt hj) ?_;intro wl Lb H2;replace H:=Lib.hid H2;clear H2)|(first|(refine Sr.w_store (ty:=57) H.out (by rfl) rfl rfl rfl 0 rfl rfl rfl sPl_ (all_one rfl) ?_;intro wn H2;replace H:=Lib.hid H2;clear H2)|(refine Sr.w_store (ty:=57) H.out (by rfl) rfl rfl rfl 2 rfl rfl rfl sPl_ (all_one rfl) ?_;intro wn H2;replace H:=Lib.hid H2;clear H2))|(first|(refine St.w_load1 (ty:=112) H.out.st (by rfl) rfl rfl 3 rfl rfl uPar_ ?_)|(refine St.w_load1 (ty:=112) H.out.st (by rfl) rfl rfl 4 rfl rfl uPar_ ?_))|(refine Sr.w_lit H.out (by rfl) rfl Tryz.underlying48 iStr2_ [.string ⟨#[119,104,101,114,101]⟩,.string ⟨#[107,101,101,112]⟩,.string ⟨#[106,111,105,110]⟩,.string ⟨#[108,101,102,116]⟩,.string ⟨#[103,114,111,117,112]⟩,.string ⟨#[117,110,105,111,110]⟩,.string ⟨#[100,105,115,116,105,110,99,116]⟩,.string ⟨#[102,105,114,115,116]⟩] rfl rfl rfl (by decide) (by decide) (by decide) (all_k rfl) rfl ?_;intro wl Wl H2;replace H:=Lib.hid H2;clear H2)|(go_at_call 90;(with_reducible (refine (HO.out _ (.slice (some ⟨_,0,none⟩) 8 8) H.out.pat (ops_box H.out (i:=0) rfl stepWords rfl rfl (by decide))).mono ?_));rintro e wc ⟨rfl,hK,hP⟩;have H2:=H.out.call hK hP;clear hK hP;replace H:=Lib.hid H2;clear H2)|(refine Sr.w_store1 (ty:=3) H.out (by rfl) rfl rfl rfl 1 rfl (Nat.le_of_ble_eq_true rfl) sInt_ rfl ?_;intro wn H2;replace H:=Lib.hid H2;clear H2)|(go_at_call 112;have hc:=join_any (Lq:=(fun us=>(Wl,[.string ⟨#[119,104,101,114,101]⟩,.string ⟨#[107,101,101,112]⟩,.string ⟨#[106,111,105,110]⟩,.string ⟨#[108,101,102,116]⟩,.string ⟨#[103,114,111,117,112]⟩,.string ⟨#[117,110,105,111,110]⟩,.string ⟨#[100,105,115,116,105,110,99,116]⟩,.string ⟨#[102,105,114,115,116]⟩])::(A,us)::(R,[.int .i64 0,.string ⟨#[]⟩,.slice none 0 0,.int .i64 0,.string ⟨#[]⟩,.int .i64 0,.int .i64 0,.string ⟨#[]⟩,.string ⟨#[]⟩,.slice none 0 0,.slice none 0 0,.slice none 0 0,.slice none 0 0,.slice none 0 0,.slice none 0 0,.int .i64 0])::(V,(plC over (.slice u0 m0 q0) (.slice u1 m1 q1) (.slice u2 m2 q2) (.slice u3 m3 q3) (.slice u4 m4 q4) (.slice u5 m5 q5) (.slice u6 m6 q6)))::(C,[.pointer (some ⟨B,0,none⟩)])::L)) (ia:=1) (A:=A) (fun _=>rfl) (fun _ _=>rfl) dp HD.out [.int .i64 4,.string ⟨#[]⟩,.slice (some ⟨Lb,0,none⟩) 1 1,.int .i64 0,.string ⟨#[]⟩,.int .i64 0,.int .i64 0,.string ⟨#[]⟩,.string ⟨#[]⟩,.slice none 0 0,.slice none 0 0,.slice none 0 0,.slice none 0 0,.slice none 0 0,.slice none 0 0,.int .i64 0] (some ⟨Lb,0,none⟩) 1 (plD over) [(plC over (.slice u0 m0 q0) (.slice u1 m1 q1) (.slice u2 m2 q2) (.slice u3 m3 q3) (.slice u4 m4 q4) (.slice u5 m5 q5) (.slice u6 m6 q6))] rfl rfl rfl _ s1 H.out;(with_reducible (refine hc.mono ?_));clear hc;rintro e wc ⟨rfl,g,cap,c9,v9,H2⟩;obtain ⟨fo9,fc9,rfl,_⟩:=Rep.len (rep1 (H2.st.rowAt (j:=0) rfl));replace H:=Lib.hid H2;clear H2))
 refine bodyPost_ret (H.out.st.results Tryz.results89 (by rfl) 2 rfl uPl_ sPl_) rfl ?_
 have H3:=H.out.shut
 have hr:=row_pl (x:=.mk 4 [] [over,(joinP dp s1).1.1] zEx [] [] (joinP dp s1).1.2 [] [] 0) ⟨(by show Rep _ _ (.sl 16 (plDs [over,_])) _;rw [plDs_map];exact rep1 (H3.st.rowAt (j:=0) rfl)),(by show Rep _ _ (.sl 7 (exDs [])) _;rw [exDs];exact Rep.nil _ _ _),(Rep.nil _ _ _),(by show Rep _ _ (.sl 7 (exDs [])) _;rw [exDs];exact Rep.nil _ _ _),(rep1 (H3.st.rowAt (j:=1) rfl)),(Rep.nil _ _ _),(Rep.nil _ _ _)⟩
 have H4:=(H3.put hr).drop (.cons _ (.cons _ (.cons _ (.cons _ (.cons _ (List.Sublist.refl _))))))
 rw [HE.out]
 exact ⟨_,rfl,H4.less (by intro q hq;rcases List.mem_cons.1 hq with rfl|hq;exact List.mem_cons_self;exact List.mem_cons_of_mem _ (List.mem_cons_of_mem _ (List.mem_cons_of_mem _ (hq))))⟩
set_option maxRecDepth 100000 in
set_option maxHeartbeats 1600000 in
theorem step_4 (dp:PQ) {B d:Nat} (hd:QOk 87 (partP dp) B d) {w0:World} {L:List Bx} {D:List (List Dat × List Value)} {O:List Ow} (over:Pl) (u0:Option Addr) (m0 q0:Nat) (u1:Option Addr) (m1 q1:Nat) (u2:Option Addr) (m2 q2:Nat) (u3:Option Addr) (m3 q3:Nat) (u4:Option Addr) (m4 q4:Nat) (u5:Option Addr) (m5 q5:Nat) (u6:Option Addr) (m6 q6:Nat) (j:Nat) (hj:D[j]?=some (plD over,(plC over (.slice u0 m0 q0) (.slice u1 m1 q1) (.slice u2 m2 q2) (.slice u3 m3 q3) (.slice u4 m4 q4) (.slice u5 m5 q5) (.slice u6 m6 q6)))) (w:World) (s s1:Ps) (h1:oneP stepWords s=(4,s1)) (h:Sr B d w0 w s L D O) :
 Calls Tryz.prog 89 #[.pointer (some ⟨B,0,none⟩),.agg (plC over (.slice u0 m0 q0) (.slice u1 m1 q1) (.slice u2 m2 q2) (.slice u3 m3 q3) (.slice u4 m4 q4) (.slice u5 m5 q5) (.slice u6 m6 q6)).toArray] w fun e w'=>∃ cs',e=.returned (.agg cs'.toArray)∧Sr B d w0 w' (stepP dp over s).2 L ((plD (stepP dp over s).1,cs')::D) O:=by
 have H:=Lib.hid h
 have HD:=Lib.hid hd
 have HO:Hid (∀ W v,PAt W B d s→OpsAt W B v stepWords→Calls Tryz.prog 90 #[.pointer (some ⟨B,0,none⟩),v] W (OneTo W B d (4,s1))):=fun W v hP hO=>by
  have:=one_any stepWords s v W B d (by decide) hP hO
  rw [h1] at this
  exact this
 have HE:Hid (stepP dp over s=(.mk 5 [] [over,(joinP dp s1).1.1] zEx [] [] (joinP dp s1).1.2 [] [] 0,(joinP dp s1).2)):=by show stepP dp over s=_;unfold stepP;rw [h1];rfl
 clear h hd h1
 go_enter Tryz.func89,Tryz.ntmps89
 go_wp2_with (first|(refine Sr.w_box (ty:=112) H.out (by rfl) rfl rfl rfl ?_;intro wn C H2;replace H:=Lib.hid H2;clear H2)|(refine Sr.w_box (ty:=57) H.out (by rfl) rfl rfl rfl ?_;intro wn V H2;replace H:=Lib.hid H2;clear H2)|(refine Sr.w_alloc (ty:=57) H.out (by rfl) rfl zPl_ rfl ?_;(first|(have hh:Nat:=Lb;clear hh;intro wn A H2)|(intro wn R H2));replace H:=Lib.hid H2;clear H2)|(first|(refine St.w_load (ty:=57) H.out.st (by rfl) rfl rfl 1 rfl uPl_ sPl_ ?_))|(refine Sr.w_litO1 (r:=plD over) H.out (by rfl) rfl Tryz.underlying52 iPl2_ rfl rfl (by decide) (by decide) rfl rfl (plD_len _) (H.out.st.rowAt hj) ?_;intro wl Lb H2;replace H:=Lib.hid H2;clear H2)|(first|(refine Sr.w_store (ty:=57) H.out (by rfl) rfl rfl rfl 0 rfl rfl rfl sPl_ (all_one rfl) ?_;intro wn H2;replace H:=Lib.hid H2;clear H2)|(refine Sr.w_store (ty:=57) H.out (by rfl) rfl rfl rfl 2 rfl rfl rfl sPl_ (all_one rfl) ?_;intro wn H2;replace H:=Lib.hid H2;clear H2))|(first|(refine St.w_load1 (ty:=112) H.out.st (by rfl) rfl rfl 3 rfl rfl uPar_ ?_)|(refine St.w_load1 (ty:=112) H.out.st (by rfl) rfl rfl 4 rfl rfl uPar_ ?_))|(refine Sr.w_lit H.out (by rfl) rfl Tryz.underlying48 iStr2_ [.string ⟨#[119,104,101,114,101]⟩,.string ⟨#[107,101,101,112]⟩,.string ⟨#[106,111,105,110]⟩,.string ⟨#[108,101,102,116]⟩,.string ⟨#[103,114,111,117,112]⟩,.string ⟨#[117,110,105,111,110]⟩,.string ⟨#[100,105,115,116,105,110,99,116]⟩,.string ⟨#[102,105,114,115,116]⟩] rfl rfl rfl (by decide) (by decide) (by decide) (all_k rfl) rfl ?_;intro wl Wl H2;replace H:=Lib.hid H2;clear H2)|(go_at_call 90;(with_reducible (refine (HO.out _ (.slice (some ⟨_,0,none⟩) 8 8) H.out.pat (ops_box H.out (i:=0) rfl stepWords rfl rfl (by decide))).mono ?_));rintro e wc ⟨rfl,hK,hP⟩;have H2:=H.out.call hK hP;clear hK hP;replace H:=Lib.hid H2;clear H2)|(refine Sr.w_store1 (ty:=3) H.out (by rfl) rfl rfl rfl 1 rfl (Nat.le_of_ble_eq_true rfl) sInt_ rfl ?_;intro wn H2;replace H:=Lib.hid H2;clear H2)|(go_at_call 112;have hc:=join_any (Lq:=(fun us=>(Wl,[.string ⟨#[119,104,101,114,101]⟩,.string ⟨#[107,101,101,112]⟩,.string ⟨#[106,111,105,110]⟩,.string ⟨#[108,101,102,116]⟩,.string ⟨#[103,114,111,117,112]⟩,.string ⟨#[117,110,105,111,110]⟩,.string ⟨#[100,105,115,116,105,110,99,116]⟩,.string ⟨#[102,105,114,115,116]⟩])::(A,us)::(R,[.int .i64 0,.string ⟨#[]⟩,.slice none 0 0,.int .i64 0,.string ⟨#[]⟩,.int .i64 0,.int .i64 0,.string ⟨#[]⟩,.string ⟨#[]⟩,.slice none 0 0,.slice none 0 0,.slice none 0 0,.slice none 0 0,.slice none 0 0,.slice none 0 0,.int .i64 0])::(V,(plC over (.slice u0 m0 q0) (.slice u1 m1 q1) (.slice u2 m2 q2) (.slice u3 m3 q3) (.slice u4 m4 q4) (.slice u5 m5 q5) (.slice u6 m6 q6)))::(C,[.pointer (some ⟨B,0,none⟩)])::L)) (ia:=1) (A:=A) (fun _=>rfl) (fun _ _=>rfl) dp HD.out [.int .i64 5,.string ⟨#[]⟩,.slice (some ⟨Lb,0,none⟩) 1 1,.int .i64 0,.string ⟨#[]⟩,.int .i64 0,.int .i64 0,.string ⟨#[]⟩,.string ⟨#[]⟩,.slice none 0 0,.slice none 0 0,.slice none 0 0,.slice none 0 0,.slice none 0 0,.slice none 0 0,.int .i64 0] (some ⟨Lb,0,none⟩) 1 (plD over) [(plC over (.slice u0 m0 q0) (.slice u1 m1 q1) (.slice u2 m2 q2) (.slice u3 m3 q3) (.slice u4 m4 q4) (.slice u5 m5 q5) (.slice u6 m6 q6))] rfl rfl rfl _ s1 H.out;(with_reducible (refine hc.mono ?_));clear hc;rintro e wc ⟨rfl,g,cap,c9,v9,H2⟩;obtain ⟨fo9,fc9,rfl,_⟩:=Rep.len (rep1 (H2.st.rowAt (j:=0) rfl));replace H:=Lib.hid H2;clear H2))
 refine bodyPost_ret (H.out.st.results Tryz.results89 (by rfl) 2 rfl uPl_ sPl_) rfl ?_
 have H3:=H.out.shut
 have hr:=row_pl (x:=.mk 5 [] [over,(joinP dp s1).1.1] zEx [] [] (joinP dp s1).1.2 [] [] 0) ⟨(by show Rep _ _ (.sl 16 (plDs [over,_])) _;rw [plDs_map];exact rep1 (H3.st.rowAt (j:=0) rfl)),(by show Rep _ _ (.sl 7 (exDs [])) _;rw [exDs];exact Rep.nil _ _ _),(Rep.nil _ _ _),(by show Rep _ _ (.sl 7 (exDs [])) _;rw [exDs];exact Rep.nil _ _ _),(rep1 (H3.st.rowAt (j:=1) rfl)),(Rep.nil _ _ _),(Rep.nil _ _ _)⟩
 have H4:=(H3.put hr).drop (.cons _ (.cons _ (.cons _ (.cons _ (.cons _ (List.Sublist.refl _))))))
 rw [HE.out]
 exact ⟨_,rfl,H4.less (by intro q hq;rcases List.mem_cons.1 hq with rfl|hq;exact List.mem_cons_self;exact List.mem_cons_of_mem _ (List.mem_cons_of_mem _ (List.mem_cons_of_mem _ (hq))))⟩
set_option maxRecDepth 100000 in
set_option maxHeartbeats 1600000 in
theorem step_5 (dp:PQ) {B d:Nat} (hd:QOk 87 (partP dp) B d) {w0:World} {L:List Bx} {D:List (List Dat × List Value)} {O:List Ow} (over:Pl) (u0:Option Addr) (m0 q0:Nat) (u1:Option Addr) (m1 q1:Nat) (u2:Option Addr) (m2 q2:Nat) (u3:Option Addr) (m3 q3:Nat) (u4:Option Addr) (m4 q4:Nat) (u5:Option Addr) (m5 q5:Nat) (u6:Option Addr) (m6 q6:Nat) (j:Nat) (hj:D[j]?=some (plD over,(plC over (.slice u0 m0 q0) (.slice u1 m1 q1) (.slice u2 m2 q2) (.slice u3 m3 q3) (.slice u4 m4 q4) (.slice u5 m5 q5) (.slice u6 m6 q6)))) (w:World) (s s1:Ps) (h1:oneP stepWords s=(5,s1)) (h:Sr B d w0 w s L D O) :
 Calls Tryz.prog 89 #[.pointer (some ⟨B,0,none⟩),.agg (plC over (.slice u0 m0 q0) (.slice u1 m1 q1) (.slice u2 m2 q2) (.slice u3 m3 q3) (.slice u4 m4 q4) (.slice u5 m5 q5) (.slice u6 m6 q6)).toArray] w fun e w'=>∃ cs',e=.returned (.agg cs'.toArray)∧Sr B d w0 w' (stepP dp over s).2 L ((plD (stepP dp over s).1,cs')::D) O:=by
 have H:=Lib.hid h
 have HD:=Lib.hid hd
 have HO:Hid (∀ W v,PAt W B d s→OpsAt W B v stepWords→Calls Tryz.prog 90 #[.pointer (some ⟨B,0,none⟩),v] W (OneTo W B d (5,s1))):=fun W v hP hO=>by
  have:=one_any stepWords s v W B d (by decide) hP hO
  rw [h1] at this
  exact this
 have HE:Hid (stepP dp over s=(.mk 6 [] [over] zEx (groupP s1).1.1 [] [] (groupP s1).1.2 [] 0,(groupP s1).2)):=by show stepP dp over s=_;unfold stepP;rw [h1];rfl
 clear h hd h1
 go_enter Tryz.func89,Tryz.ntmps89
 go_wp2_with (first|(refine Sr.w_box (ty:=112) H.out (by rfl) rfl rfl rfl ?_;intro wn C H2;replace H:=Lib.hid H2;clear H2)|(refine Sr.w_box (ty:=57) H.out (by rfl) rfl rfl rfl ?_;intro wn V H2;replace H:=Lib.hid H2;clear H2)|(refine Sr.w_alloc (ty:=57) H.out (by rfl) rfl zPl_ rfl ?_;(first|(have hh:Nat:=Lb;clear hh;intro wn A H2)|(intro wn R H2));replace H:=Lib.hid H2;clear H2)|(first|(refine St.w_load (ty:=57) H.out.st (by rfl) rfl rfl 1 rfl uPl_ sPl_ ?_))|(refine Sr.w_litO1 (r:=plD over) H.out (by rfl) rfl Tryz.underlying52 iPl2_ rfl rfl (by decide) (by decide) rfl rfl (plD_len _) (H.out.st.rowAt hj) ?_;intro wl Lb H2;replace H:=Lib.hid H2;clear H2)|(first|(refine Sr.w_store (ty:=57) H.out (by rfl) rfl rfl rfl 0 rfl rfl rfl sPl_ (all_one rfl) ?_;intro wn H2;replace H:=Lib.hid H2;clear H2)|(refine Sr.w_store (ty:=57) H.out (by rfl) rfl rfl rfl 2 rfl rfl rfl sPl_ (all_one rfl) ?_;intro wn H2;replace H:=Lib.hid H2;clear H2))|(first|(refine St.w_load1 (ty:=112) H.out.st (by rfl) rfl rfl 3 rfl rfl uPar_ ?_)|(refine St.w_load1 (ty:=112) H.out.st (by rfl) rfl rfl 4 rfl rfl uPar_ ?_))|(refine Sr.w_lit H.out (by rfl) rfl Tryz.underlying48 iStr2_ [.string ⟨#[119,104,101,114,101]⟩,.string ⟨#[107,101,101,112]⟩,.string ⟨#[106,111,105,110]⟩,.string ⟨#[108,101,102,116]⟩,.string ⟨#[103,114,111,117,112]⟩,.string ⟨#[117,110,105,111,110]⟩,.string ⟨#[100,105,115,116,105,110,99,116]⟩,.string ⟨#[102,105,114,115,116]⟩] rfl rfl rfl (by decide) (by decide) (by decide) (all_k rfl) rfl ?_;intro wl Wl H2;replace H:=Lib.hid H2;clear H2)|(go_at_call 90;(with_reducible (refine (HO.out _ (.slice (some ⟨_,0,none⟩) 8 8) H.out.pat (ops_box H.out (i:=0) rfl stepWords rfl rfl (by decide))).mono ?_));rintro e wc ⟨rfl,hK,hP⟩;have H2:=H.out.call hK hP;clear hK hP;replace H:=Lib.hid H2;clear H2)|(refine Sr.w_store1 (ty:=3) H.out (by rfl) rfl rfl rfl 1 rfl (Nat.le_of_ble_eq_true rfl) sInt_ rfl ?_;intro wn H2;replace H:=Lib.hid H2;clear H2)|(go_at_call 113;have hc:=group_any (Lq:=(fun us=>(Wl,[.string ⟨#[119,104,101,114,101]⟩,.string ⟨#[107,101,101,112]⟩,.string ⟨#[106,111,105,110]⟩,.string ⟨#[108,101,102,116]⟩,.string ⟨#[103,114,111,117,112]⟩,.string ⟨#[117,110,105,111,110]⟩,.string ⟨#[100,105,115,116,105,110,99,116]⟩,.string ⟨#[102,105,114,115,116]⟩])::(A,us)::(R,[.int .i64 0,.string ⟨#[]⟩,.slice none 0 0,.int .i64 0,.string ⟨#[]⟩,.int .i64 0,.int .i64 0,.string ⟨#[]⟩,.string ⟨#[]⟩,.slice none 0 0,.slice none 0 0,.slice none 0 0,.slice none 0 0,.slice none 0 0,.slice none 0 0,.int .i64 0])::(V,(plC over (.slice u0 m0 q0) (.slice u1 m1 q1) (.slice u2 m2 q2) (.slice u3 m3 q3) (.slice u4 m4 q4) (.slice u5 m5 q5) (.slice u6 m6 q6)))::(C,[.pointer (some ⟨B,0,none⟩)])::L)) (ia:=1) (A:=A) (fun _=>rfl) (fun _ _=>rfl) [.int .i64 6,.string ⟨#[]⟩,.slice (some ⟨Lb,0,none⟩) 1 1,.int .i64 0,.string ⟨#[]⟩,.int .i64 0,.int .i64 0,.string ⟨#[]⟩,.string ⟨#[]⟩,.slice none 0 0,.slice none 0 0,.slice none 0 0,.slice none 0 0,.slice none 0 0,.slice none 0 0,.int .i64 0] rfl rfl rfl _ s1 H.out;(with_reducible (refine hc.mono ?_));clear hc;rintro e wc ⟨rfl,v8,v9,H2⟩;obtain ⟨fo9,fc9,rfl,_⟩:=Rep.len (rep1 (H2.st.rowAt (j:=0) rfl));obtain ⟨fo8,fc8,rfl,_⟩:=Rep.len (rep1 (H2.st.rowAt (j:=1) rfl));replace H:=Lib.hid H2;clear H2))
 refine bodyPost_ret (H.out.st.results Tryz.results89 (by rfl) 2 rfl uPl_ sPl_) rfl ?_
 have H3:=H.out.shut
 have hr:=row_pl (x:=.mk 6 [] [over] zEx (groupP s1).1.1 [] [] (groupP s1).1.2 [] 0) ⟨(by show Rep _ _ (.sl 16 (plDs [over])) _;rw [plDs_map];exact rep1 (H3.st.rowAt (j:=0) rfl)),(by show Rep _ _ (.sl 7 (exDs [])) _;rw [exDs];exact Rep.nil _ _ _),(rep1 (H3.st.rowAt (j:=2) rfl)),(by show Rep _ _ (.sl 7 (exDs [])) _;rw [exDs];exact Rep.nil _ _ _),(Rep.nil _ _ _),(rep1 (H3.st.rowAt (j:=1) rfl)),(Rep.nil _ _ _)⟩
 have H4:=(H3.put hr).drop (.cons _ (.cons _ (.cons _ (.cons _ (.cons _ (List.Sublist.refl _))))))
 rw [HE.out]
 exact ⟨_,rfl,H4.less (by intro q hq;rcases List.mem_cons.1 hq with rfl|hq;exact List.mem_cons_self;exact List.mem_cons_of_mem _ (List.mem_cons_of_mem _ (List.mem_cons_of_mem _ (List.mem_cons_of_mem _ (hq)))))⟩
set_option maxRecDepth 100000 in
set_option maxHeartbeats 1600000 in
theorem step_8 (dp:PQ) {B d:Nat} (hd:QOk 87 (partP dp) B d) {w0:World} {L:List Bx} {D:List (List Dat × List Value)} {O:List Ow} (over:Pl) (u0:Option Addr) (m0 q0:Nat) (u1:Option Addr) (m1 q1:Nat) (u2:Option Addr) (m2 q2:Nat) (u3:Option Addr) (m3 q3:Nat) (u4:Option Addr) (m4 q4:Nat) (u5:Option Addr) (m5 q5:Nat) (u6:Option Addr) (m6 q6:Nat) (j:Nat) (hj:D[j]?=some (plD over,(plC over (.slice u0 m0 q0) (.slice u1 m1 q1) (.slice u2 m2 q2) (.slice u3 m3 q3) (.slice u4 m4 q4) (.slice u5 m5 q5) (.slice u6 m6 q6)))) (w:World) (s s1:Ps) (h1:oneP stepWords s=(8,s1)) (h:Sr B d w0 w s L D O) :
 Calls Tryz.prog 89 #[.pointer (some ⟨B,0,none⟩),.agg (plC over (.slice u0 m0 q0) (.slice u1 m1 q1) (.slice u2 m2 q2) (.slice u3 m3 q3) (.slice u4 m4 q4) (.slice u5 m5 q5) (.slice u6 m6 q6)).toArray] w fun e w'=>∃ cs',e=.returned (.agg cs'.toArray)∧Sr B d w0 w' (stepP dp over s).2 L ((plD (stepP dp over s).1,cs')::D) O:=by
 have H:=Lib.hid h
 have HD:=Lib.hid hd
 have HO:Hid (∀ W v,PAt W B d s→OpsAt W B v stepWords→Calls Tryz.prog 90 #[.pointer (some ⟨B,0,none⟩),v] W (OneTo W B d (8,s1))):=fun W v hP hO=>by
  have:=one_any stepWords s v W B d (by decide) hP hO
  rw [h1] at this
  exact this
 have HE:Hid (stepP dp over s=(.mk 9 [] [over] zEx [] [] [] [] (firstP s1).1.2 (firstP s1).1.1,(firstP s1).2)):=by show stepP dp over s=_;unfold stepP;rw [h1];rfl
 clear h hd h1
 go_enter Tryz.func89,Tryz.ntmps89
 go_wp2_with (first|(refine Sr.w_box (ty:=112) H.out (by rfl) rfl rfl rfl ?_;intro wn C H2;replace H:=Lib.hid H2;clear H2)|(refine Sr.w_box (ty:=57) H.out (by rfl) rfl rfl rfl ?_;intro wn V H2;replace H:=Lib.hid H2;clear H2)|(refine Sr.w_alloc (ty:=57) H.out (by rfl) rfl zPl_ rfl ?_;(first|(have hh:Nat:=Lb;clear hh;intro wn A H2)|(intro wn R H2));replace H:=Lib.hid H2;clear H2)|(first|(refine St.w_load (ty:=57) H.out.st (by rfl) rfl rfl 1 rfl uPl_ sPl_ ?_))|(refine Sr.w_litO1 (r:=plD over) H.out (by rfl) rfl Tryz.underlying52 iPl2_ rfl rfl (by decide) (by decide) rfl rfl (plD_len _) (H.out.st.rowAt hj) ?_;intro wl Lb H2;replace H:=Lib.hid H2;clear H2)|(first|(refine Sr.w_store (ty:=57) H.out (by rfl) rfl rfl rfl 0 rfl rfl rfl sPl_ (all_one rfl) ?_;intro wn H2;replace H:=Lib.hid H2;clear H2)|(refine Sr.w_store (ty:=57) H.out (by rfl) rfl rfl rfl 2 rfl rfl rfl sPl_ (all_one rfl) ?_;intro wn H2;replace H:=Lib.hid H2;clear H2))|(first|(refine St.w_load1 (ty:=112) H.out.st (by rfl) rfl rfl 3 rfl rfl uPar_ ?_)|(refine St.w_load1 (ty:=112) H.out.st (by rfl) rfl rfl 4 rfl rfl uPar_ ?_))|(refine Sr.w_lit H.out (by rfl) rfl Tryz.underlying48 iStr2_ [.string ⟨#[119,104,101,114,101]⟩,.string ⟨#[107,101,101,112]⟩,.string ⟨#[106,111,105,110]⟩,.string ⟨#[108,101,102,116]⟩,.string ⟨#[103,114,111,117,112]⟩,.string ⟨#[117,110,105,111,110]⟩,.string ⟨#[100,105,115,116,105,110,99,116]⟩,.string ⟨#[102,105,114,115,116]⟩] rfl rfl rfl (by decide) (by decide) (by decide) (all_k rfl) rfl ?_;intro wl Wl H2;replace H:=Lib.hid H2;clear H2)|(go_at_call 90;(with_reducible (refine (HO.out _ (.slice (some ⟨_,0,none⟩) 8 8) H.out.pat (ops_box H.out (i:=0) rfl stepWords rfl rfl (by decide))).mono ?_));rintro e wc ⟨rfl,hK,hP⟩;have H2:=H.out.call hK hP;clear hK hP;replace H:=Lib.hid H2;clear H2)|(refine Sr.w_store1 (ty:=3) H.out (by rfl) rfl rfl rfl 1 rfl (Nat.le_of_ble_eq_true rfl) sInt_ rfl ?_;intro wn H2;replace H:=Lib.hid H2;clear H2)|(go_at_call 114;have hc:=first_any (Lq:=(fun us=>(Wl,[.string ⟨#[119,104,101,114,101]⟩,.string ⟨#[107,101,101,112]⟩,.string ⟨#[106,111,105,110]⟩,.string ⟨#[108,101,102,116]⟩,.string ⟨#[103,114,111,117,112]⟩,.string ⟨#[117,110,105,111,110]⟩,.string ⟨#[100,105,115,116,105,110,99,116]⟩,.string ⟨#[102,105,114,115,116]⟩])::(A,us)::(R,[.int .i64 0,.string ⟨#[]⟩,.slice none 0 0,.int .i64 0,.string ⟨#[]⟩,.int .i64 0,.int .i64 0,.string ⟨#[]⟩,.string ⟨#[]⟩,.slice none 0 0,.slice none 0 0,.slice none 0 0,.slice none 0 0,.slice none 0 0,.slice none 0 0,.int .i64 0])::(V,(plC over (.slice u0 m0 q0) (.slice u1 m1 q1) (.slice u2 m2 q2) (.slice u3 m3 q3) (.slice u4 m4 q4) (.slice u5 m5 q5) (.slice u6 m6 q6)))::(C,[.pointer (some ⟨B,0,none⟩)])::L)) (ia:=1) (A:=A) (fun _=>rfl) (fun _ _=>rfl) [.int .i64 9,.string ⟨#[]⟩,.slice (some ⟨Lb,0,none⟩) 1 1,.int .i64 0,.string ⟨#[]⟩,.int .i64 0,.int .i64 0,.string ⟨#[]⟩,.string ⟨#[]⟩,.slice none 0 0,.slice none 0 0,.slice none 0 0,.slice none 0 0,.slice none 0 0,.slice none 0 0,.int .i64 0] rfl rfl _ s1 H.out;(with_reducible (refine hc.mono ?_));clear hc;rintro e wc ⟨rfl,v9,H2⟩;obtain ⟨fo9,fc9,rfl,_⟩:=Rep.len (rep1 (H2.st.rowAt (j:=0) rfl));replace H:=Lib.hid H2;clear H2))
 refine bodyPost_ret (H.out.st.results Tryz.results89 (by rfl) 2 rfl uPl_ sPl_) rfl ?_
 have H3:=H.out.shut
 have hr:=row_pl (x:=.mk 9 [] [over] zEx [] [] [] [] (firstP s1).1.2 (firstP s1).1.1) ⟨(by show Rep _ _ (.sl 16 (plDs [over])) _;rw [plDs_map];exact rep1 (H3.st.rowAt (j:=0) rfl)),(by show Rep _ _ (.sl 7 (exDs [])) _;rw [exDs];exact Rep.nil _ _ _),(Rep.nil _ _ _),(by show Rep _ _ (.sl 7 (exDs [])) _;rw [exDs];exact Rep.nil _ _ _),(Rep.nil _ _ _),(Rep.nil _ _ _),(rep1 (H3.st.rowAt (j:=1) rfl))⟩
 have H4:=(H3.put hr).drop (.cons _ (.cons _ (.cons _ (.cons _ (.cons _ (List.Sublist.refl _))))))
 rw [HE.out]
 exact ⟨_,rfl,H4.less (by intro q hq;rcases List.mem_cons.1 hq with rfl|hq;exact List.mem_cons_self;exact List.mem_cons_of_mem _ (List.mem_cons_of_mem _ (List.mem_cons_of_mem _ (hq))))⟩
theorem Gt2.call {m m' B d:Nat} {w0 W W':World} {Lf:Value→Value→List Bx} {D:List (List Dat × List Value)} {O:List Ow} {acc:List Ex × List Str} {s s':Ps} (h:Gt2 m B d w0 Lf D O W acc s) (hK:Kept (fun b=>b=B) W W') (hP:PAt W' B d s') (hi:s.i+m≤s'.i+m'):Gt2 m' B d w0 Lf D O W' acc s':=by
 obtain ⟨h0,h1,v1,v2,c1,c2,h⟩:=h
 exact ⟨by omega,by omega,v1,v2,c1,c2,h.call hK hP⟩
theorem Gt2.pat {m B d:Nat} {w0 W:World} {Lf:Value→Value→List Bx} {D:List (List Dat × List Value)} {O:List Ow} {acc:List Ex × List Str} {s:Ps} (h:Gt2 m B d w0 Lf D O W acc s):PAt W B d s:=by
 obtain ⟨_,_,_,_,_,_,h⟩:=h
 exact h.pat
theorem gather2_any {w0:World} {B A C ia ic d:Nat} {us:Value→Value→List Value} {Lf:Value→Value→List Bx} {D:List (List Dat × List Value)} {O:List Ow} (hA:∀ v1 v2,(Lf v1 v2)[ia]?=some (A,us v1 v2)) (hus1:∀ v1 v2,(us v1 v2)[11]?=some v1) (hus2:∀ v1 v2,(us v1 v2)[10]?=some v2) (hC:∀ v1 v2,(Lf v1 v2)[ic]?=some (C,[.pointer (some ⟨B,0,none⟩)])) (hset1:∀ v1 v2 v,(Lf v1 v2).set ia (A,(us v1 v2).set 11 v)=Lf v v2) (hset2:∀ v1 v2 v,(Lf v1 v2).set ia (A,(us v1 v2).set 10 v)=Lf v1 v) (w:World) (s:Ps) (h:Sr B d w0 w s (Lf (.slice none 0 0) (.slice none 0 0)) D O) :
 Calls Tryz.prog 110 #[.pointer (some ⟨B,0,none⟩),.func (.func 111) #[] #[.pointer (some ⟨A,0,none⟩),.pointer (some ⟨C,0,none⟩)]] w fun e w'=>e=.returned (.tuple #[])∧∃ a1 p1 n1 a2 p2 n2,Sr B d w0 w' (listP keepItem ([],[]) s).2 (Lf (.slice a1 n1 p1) (.slice a2 n2 p2)) (([.sl 1 ((listP keepItem ([],[]) s).1.2.map strD)],[.slice a2 n2 p2])::([.sl 7 ((listP keepItem ([],[]) s).1.1.map exD)],[.slice a1 n1 p1])::D) O :=
 (list_any 111 (enters_of Tryz.func111 (by kernel_rfl) rfl) #[] _ keepItem (Gt2 0 B d w0 Lf D O) (Gt2 1 B d w0 Lf D O) B d (fun _ _ _ h=>h.pat) (fun _ _ _ h=>h.pat) (fun _ _ _ _ h hK hP=>h.call hK hP (Nat.le_refl _)) (fun _ _ a s h hK hP=>h.call hK hP (by show s.i+1≤s.i+1+0;omega)) goes_keepItem
  (fun W a s hg=>by rw [Array.empty_append];exact step1_any hA hus1 hus2 hC hset1 hset2 W a s hg) ([],[]) s w ⟨Nat.zero_le _,Nat.zero_le _,_,_,_,_,(h.gather 9 1).gather 27 7⟩).mono
  fun e w' ⟨he,_,_,v1,v2,c1,c2,hs⟩=>by
   obtain ⟨a1,p1,e1⟩:=hs.st.form (i:=0) rfl
   obtain ⟨a2,p2,e2⟩:=hs.st.form (i:=1) rfl
   change v1=.slice a1 ((listP keepItem ([],[]) s).1.1.map exD).length p1 at e1
   change v2=.slice a2 ((listP keepItem ([],[]) s).1.2.map strD).length p2 at e2
   subst e1 e2
   exact ⟨he,a1,p1,_,a2,p2,_,hs.shut.shut⟩
set_option maxRecDepth 100000 in
set_option maxHeartbeats 1600000 in
theorem step_2 (dp:PQ) {B d:Nat} (hd:QOk 87 (partP dp) B d) {w0:World} {L:List Bx} {D:List (List Dat × List Value)} {O:List Ow} (over:Pl) (u0:Option Addr) (m0 q0:Nat) (u1:Option Addr) (m1 q1:Nat) (u2:Option Addr) (m2 q2:Nat) (u3:Option Addr) (m3 q3:Nat) (u4:Option Addr) (m4 q4:Nat) (u5:Option Addr) (m5 q5:Nat) (u6:Option Addr) (m6 q6:Nat) (j:Nat) (hj:D[j]?=some (plD over,(plC over (.slice u0 m0 q0) (.slice u1 m1 q1) (.slice u2 m2 q2) (.slice u3 m3 q3) (.slice u4 m4 q4) (.slice u5 m5 q5) (.slice u6 m6 q6)))) (w:World) (s s1:Ps) (h1:oneP stepWords s=(2,s1)) (h:Sr B d w0 w s L D O) :
 Calls Tryz.prog 89 #[.pointer (some ⟨B,0,none⟩),.agg (plC over (.slice u0 m0 q0) (.slice u1 m1 q1) (.slice u2 m2 q2) (.slice u3 m3 q3) (.slice u4 m4 q4) (.slice u5 m5 q5) (.slice u6 m6 q6)).toArray] w fun e w'=>∃ cs',e=.returned (.agg cs'.toArray)∧Sr B d w0 w' (stepP dp over s).2 L ((plD (stepP dp over s).1,cs')::D) O:=by
 have H:=Lib.hid h
 have HD:=Lib.hid hd
 have HO:Hid (∀ W v,PAt W B d s→OpsAt W B v stepWords→Calls Tryz.prog 90 #[.pointer (some ⟨B,0,none⟩),v] W (OneTo W B d (2,s1))):=fun W v hP hO=>by
  have:=one_any stepWords s v W B d (by decide) hP hO
  rw [h1] at this
  exact this
 have HE:Hid (stepP dp over s=(.mk 3 [] [over] zEx (listP keepItem ([],[]) s1).1.2 (listP keepItem ([],[]) s1).1.1 [] [] [] 0,(listP keepItem ([],[]) s1).2)):=by show stepP dp over s=_;unfold stepP;rw [h1];rfl
 clear h hd h1
 go_enter Tryz.func89,Tryz.ntmps89
 go_wp2_with (first|(refine Sr.w_box (ty:=112) H.out (by rfl) rfl rfl rfl ?_;intro wn C H2;replace H:=Lib.hid H2;clear H2)|(refine Sr.w_box (ty:=57) H.out (by rfl) rfl rfl rfl ?_;intro wn V H2;replace H:=Lib.hid H2;clear H2)|(refine Sr.w_alloc (ty:=57) H.out (by rfl) rfl zPl_ rfl ?_;(first|(have hh:Nat:=Lb;clear hh;intro wn A H2)|(intro wn R H2));replace H:=Lib.hid H2;clear H2)|(first|(refine St.w_load (ty:=57) H.out.st (by rfl) rfl rfl 1 rfl uPl_ sPl_ ?_))|(refine Sr.w_litO1 (r:=plD over) H.out (by rfl) rfl Tryz.underlying52 iPl2_ rfl rfl (by decide) (by decide) rfl rfl (plD_len _) (H.out.st.rowAt hj) ?_;intro wl Lb H2;replace H:=Lib.hid H2;clear H2)|(first|(refine Sr.w_store (ty:=57) H.out (by rfl) rfl rfl rfl 0 rfl rfl rfl sPl_ (all_one rfl) ?_;intro wn H2;replace H:=Lib.hid H2;clear H2)|(refine Sr.w_store (ty:=57) H.out (by rfl) rfl rfl rfl 2 rfl rfl rfl sPl_ (all_one rfl) ?_;intro wn H2;replace H:=Lib.hid H2;clear H2))|(first|(refine St.w_load1 (ty:=112) H.out.st (by rfl) rfl rfl 3 rfl rfl uPar_ ?_)|(refine St.w_load1 (ty:=112) H.out.st (by rfl) rfl rfl 4 rfl rfl uPar_ ?_))|(refine Sr.w_lit H.out (by rfl) rfl Tryz.underlying48 iStr2_ [.string ⟨#[119,104,101,114,101]⟩,.string ⟨#[107,101,101,112]⟩,.string ⟨#[106,111,105,110]⟩,.string ⟨#[108,101,102,116]⟩,.string ⟨#[103,114,111,117,112]⟩,.string ⟨#[117,110,105,111,110]⟩,.string ⟨#[100,105,115,116,105,110,99,116]⟩,.string ⟨#[102,105,114,115,116]⟩] rfl rfl rfl (by decide) (by decide) (by decide) (all_k rfl) rfl ?_;intro wl Wl H2;replace H:=Lib.hid H2;clear H2)|(go_at_call 90;(with_reducible (refine (HO.out _ (.slice (some ⟨_,0,none⟩) 8 8) H.out.pat (ops_box H.out (i:=0) rfl stepWords rfl rfl (by decide))).mono ?_));rintro e wc ⟨rfl,hK,hP⟩;have H2:=H.out.call hK hP;clear hK hP;replace H:=Lib.hid H2;clear H2)|(refine Sr.w_store1 (ty:=3) H.out (by rfl) rfl rfl rfl 1 rfl (Nat.le_of_ble_eq_true rfl) sInt_ rfl ?_;intro wn H2;replace H:=Lib.hid H2;clear H2)|(go_at_call 110;have hc:=gather2_any (us:=fun v1 v2=>[.int .i64 3,.string ⟨#[]⟩,.slice (some ⟨Lb,0,none⟩) 1 1,.int .i64 0,.string ⟨#[]⟩,.int .i64 0,.int .i64 0,.string ⟨#[]⟩,.string ⟨#[]⟩,.slice none 0 0,v2,v1,.slice none 0 0,.slice none 0 0,.slice none 0 0,.int .i64 0]) (Lf:=fun v1 v2=>(fun us=>(Wl,[.string ⟨#[119,104,101,114,101]⟩,.string ⟨#[107,101,101,112]⟩,.string ⟨#[106,111,105,110]⟩,.string ⟨#[108,101,102,116]⟩,.string ⟨#[103,114,111,117,112]⟩,.string ⟨#[117,110,105,111,110]⟩,.string ⟨#[100,105,115,116,105,110,99,116]⟩,.string ⟨#[102,105,114,115,116]⟩])::(A,us)::(R,[.int .i64 0,.string ⟨#[]⟩,.slice none 0 0,.int .i64 0,.string ⟨#[]⟩,.int .i64 0,.int .i64 0,.string ⟨#[]⟩,.string ⟨#[]⟩,.slice none 0 0,.slice none 0 0,.slice none 0 0,.slice none 0 0,.slice none 0 0,.slice none 0 0,.int .i64 0])::(V,(plC over (.slice u0 m0 q0) (.slice u1 m1 q1) (.slice u2 m2 q2) (.slice u3 m3 q3) (.slice u4 m4 q4) (.slice u5 m5 q5) (.slice u6 m6 q6)))::(C,[.pointer (some ⟨B,0,none⟩)])::L) [.int .i64 3,.string ⟨#[]⟩,.slice (some ⟨Lb,0,none⟩) 1 1,.int .i64 0,.string ⟨#[]⟩,.int .i64 0,.int .i64 0,.string ⟨#[]⟩,.string ⟨#[]⟩,.slice none 0 0,v2,v1,.slice none 0 0,.slice none 0 0,.slice none 0 0,.int .i64 0]) (ia:=1) (ic:=4) (A:=A) (C:=C) (fun _ _=>rfl) (fun _ _=>rfl) (fun _ _=>rfl) (fun _ _=>rfl) (fun _ _ _=>rfl) (fun _ _ _=>rfl) _ s1 H.out;(with_reducible (refine hc.mono ?_));clear hc;rintro e wc ⟨rfl,f1,h1,t1,f2,h2,t2,H2⟩;replace H:=Lib.hid H2;clear H2))
 refine bodyPost_ret (H.out.st.results Tryz.results89 (by rfl) 2 rfl uPl_ sPl_) rfl ?_
 have H3:=H.out.shut
 have hr:=row_pl (x:=.mk 3 [] [over] zEx (listP keepItem ([],[]) s1).1.2 (listP keepItem ([],[]) s1).1.1 [] [] [] 0) ⟨(by show Rep _ _ (.sl 16 (plDs [over])) _;rw [plDs_map];exact rep1 (H3.st.rowAt (j:=0) rfl)),(by show Rep _ _ (.sl 7 (exDs [])) _;rw [exDs];exact Rep.nil _ _ _),(rep1 (H3.st.rowAt (j:=1) rfl)),(by show Rep _ _ (.sl 7 (exDs _)) _;rw [exDs_map];exact rep1 (H3.st.rowAt (j:=2) rfl)),(Rep.nil _ _ _),(Rep.nil _ _ _),(Rep.nil _ _ _)⟩
 have H4:=(H3.put hr).drop (.cons _ (.cons _ (.cons _ (.cons _ (.cons _ (List.Sublist.refl _))))))
 rw [HE.out]
 exact ⟨_,rfl,H4.less (by intro q hq;rcases List.mem_cons.1 hq with rfl|hq;exact List.mem_cons_self;exact List.mem_cons_of_mem _ (List.mem_cons_of_mem _ (List.mem_cons_of_mem _ (List.mem_cons_of_mem _ (hq)))))⟩
set_option maxRecDepth 100000 in
set_option maxHeartbeats 1600000 in
theorem step_6 (dp:PQ) {B d:Nat} (hd:QOk 87 (partP dp) B d) {w0:World} {L:List Bx} {D:List (List Dat × List Value)} {O:List Ow} (over:Pl) (u0:Option Addr) (m0 q0:Nat) (u1:Option Addr) (m1 q1:Nat) (u2:Option Addr) (m2 q2:Nat) (u3:Option Addr) (m3 q3:Nat) (u4:Option Addr) (m4 q4:Nat) (u5:Option Addr) (m5 q5:Nat) (u6:Option Addr) (m6 q6:Nat) (j:Nat) (hj:D[j]?=some (plD over,(plC over (.slice u0 m0 q0) (.slice u1 m1 q1) (.slice u2 m2 q2) (.slice u3 m3 q3) (.slice u4 m4 q4) (.slice u5 m5 q5) (.slice u6 m6 q6)))) (w:World) (s s1:Ps) (h1:oneP stepWords s=(6,s1)) (h:Sr B d w0 w s L D O) :
 Calls Tryz.prog 89 #[.pointer (some ⟨B,0,none⟩),.agg (plC over (.slice u0 m0 q0) (.slice u1 m1 q1) (.slice u2 m2 q2) (.slice u3 m3 q3) (.slice u4 m4 q4) (.slice u5 m5 q5) (.slice u6 m6 q6)).toArray] w fun e w'=>∃ cs',e=.returned (.agg cs'.toArray)∧Sr B d w0 w' (stepP dp over s).2 L ((plD (stepP dp over s).1,cs')::D) O:=by
 have H:=Lib.hid h
 have HD:=Lib.hid hd
 have HO:Hid (∀ W v,PAt W B d s→OpsAt W B v stepWords→Calls Tryz.prog 90 #[.pointer (some ⟨B,0,none⟩),v] W (OneTo W B d (6,s1))):=fun W v hP hO=>by
  have:=one_any stepWords s v W B d (by decide) hP hO
  rw [h1] at this
  exact this
 have HE:Hid (stepP dp over s=(.mk 7 [] [over,(partP dp s1).1] zEx [] [] [] [] [] 0,(partP dp s1).2)):=by show stepP dp over s=_;unfold stepP;rw [h1];rfl
 clear h hd h1
 go_enter Tryz.func89,Tryz.ntmps89
 go_wp2_with (first|(refine Sr.w_box (ty:=112) H.out (by rfl) rfl rfl rfl ?_;intro wn C H2;replace H:=Lib.hid H2;clear H2)|(refine Sr.w_box (ty:=57) H.out (by rfl) rfl rfl rfl ?_;intro wn V H2;replace H:=Lib.hid H2;clear H2)|(refine Sr.w_alloc (ty:=57) H.out (by rfl) rfl zPl_ rfl ?_;(first|(have hh:Nat:=Lb;clear hh;intro wn A H2)|(intro wn R H2));replace H:=Lib.hid H2;clear H2)|(first|(refine St.w_load (ty:=57) H.out.st (by rfl) rfl rfl 1 rfl uPl_ sPl_ ?_))|(refine Sr.w_litO1 (r:=plD over) H.out (by rfl) rfl Tryz.underlying52 iPl2_ rfl rfl (by decide) (by decide) rfl rfl (plD_len _) (H.out.st.rowAt hj) ?_;intro wl Lb H2;replace H:=Lib.hid H2;clear H2)|(first|(refine Sr.w_store (ty:=57) H.out (by rfl) rfl rfl rfl 0 rfl rfl rfl sPl_ (all_one rfl) ?_;intro wn H2;replace H:=Lib.hid H2;clear H2)|(refine Sr.w_store (ty:=57) H.out (by rfl) rfl rfl rfl 2 rfl rfl rfl sPl_ (all_one rfl) ?_;intro wn H2;replace H:=Lib.hid H2;clear H2))|(first|(refine St.w_load1 (ty:=112) H.out.st (by rfl) rfl rfl 3 rfl rfl uPar_ ?_)|(refine St.w_load1 (ty:=112) H.out.st (by rfl) rfl rfl 4 rfl rfl uPar_ ?_))|(refine Sr.w_lit H.out (by rfl) rfl Tryz.underlying48 iStr2_ [.string ⟨#[119,104,101,114,101]⟩,.string ⟨#[107,101,101,112]⟩,.string ⟨#[106,111,105,110]⟩,.string ⟨#[108,101,102,116]⟩,.string ⟨#[103,114,111,117,112]⟩,.string ⟨#[117,110,105,111,110]⟩,.string ⟨#[100,105,115,116,105,110,99,116]⟩,.string ⟨#[102,105,114,115,116]⟩] rfl rfl rfl (by decide) (by decide) (by decide) (all_k rfl) rfl ?_;intro wl Wl H2;replace H:=Lib.hid H2;clear H2)|(go_at_call 90;(with_reducible (refine (HO.out _ (.slice (some ⟨_,0,none⟩) 8 8) H.out.pat (ops_box H.out (i:=0) rfl stepWords rfl rfl (by decide))).mono ?_));rintro e wc ⟨rfl,hK,hP⟩;have H2:=H.out.call hK hP;clear hK hP;replace H:=Lib.hid H2;clear H2)|(refine Sr.w_store1 (ty:=3) H.out (by rfl) rfl rfl rfl 1 rfl (Nat.le_of_ble_eq_true rfl) sInt_ rfl ?_;intro wn H2;replace H:=Lib.hid H2;clear H2))
 have H2:=H.out.drew
 clear H
 have H:=Lib.hid H2
 clear H2
 refine wp_region_M_drew 10 (S:=fun W=>(W.cell? ⟨A,2,none⟩=some (.slice (some ⟨Lb,0,none⟩) 1 1)∧W.cell? ⟨C,0,none⟩=some (.pointer (some ⟨B,0,none⟩)))) (by kernel_rfl) (by exact ⟨H.out.cell (i:=1) rfl rfl,H.out.cell (i:=4) rfl rfl⟩) (fun hHeld=>?_)
 refine tkM 0 rfl (by kernel_rfl) hHeld (Or.inl ⟨by rfl,by intro w hSw;(try dsimp only at hSw);go_simp<;>with_reducible rfl⟩) ?_
 try simp only [Array.reduceGetElem,zs]
 refine tkM 1 rfl (by kernel_rfl) hHeld (Or.inl ⟨by rfl,by intro w hSw;(try dsimp only at hSw);go_simp<;>with_reducible rfl⟩) ?_
 try simp only [Array.reduceGetElem,zs]
 refine tkM 2 rfl (by kernel_rfl) hHeld (Or.inl ⟨by rfl,by intro w hSw;(try dsimp only at hSw);go_simp<;>with_reducible rfl⟩) ?_
 try simp only [Array.reduceGetElem,zs]
 refine tkM 4 rfl (by kernel_rfl) hHeld (Or.inl ⟨by rfl,by intro w hSw;(try dsimp only at hSw);go_simp<;>with_reducible rfl⟩) ?_
 try simp only [Array.reduceGetElem,zs]
 refine wpAnyM_ready (rs:=[3,5]) (by kernel_rfl) (by simp) ?_
 refine AllReadyM.cons rfl (fun K hK=>?_) (AllReadyM.cons rfl (fun K hK=>?_) AllReadyM.nil)
 ·go_simp
  go_at_call 87
  (with_reducible (refine (HD.out _ s1 H.out.pat).mono ?_))
  intro e wc hR
  obtain ⟨a0,n0,k0,a1,n1,k1,a2,n2,k2,a3,n3,k3,a4,n4,k4,a5,n5,k5,a6,n6,k6,rfl,hX,hK,hP⟩:=PlTo.of hR
  have H2:=H.out.callR hK hP hX
  clear hX hK hP hR
  try dsimp only
  refine hK.out _ _ ?_ (fun hHeld2=>?_)
  ·exact ⟨H2.cell (i:=1) rfl rfl,H2.cell (i:=4) rfl rfl⟩
  clear hK K hHeld
  have hHeld:=hHeld2
  clear hHeld2
  clear H
  have H:=Lib.hid H2
  clear H2
  try simp only [Array.reduceGetElem,zs]
  refine wpAnyM_ready (rs:=[5]) (by kernel_rfl) (by simp) ?_
  refine AllReadyM.cons rfl (fun K hK=>?_) AllReadyM.nil
  rw [if_pos (by rfl)]
  refine H.out.o_lit1 rfl Tryz.underlying52 iPl2_ rfl rfl (by decide) (by decide) rfl rfl (fun wl Cl H2=>?_)
  refine hK.out _ _ ?_ (fun hHeld2=>?_)
  ·exact ⟨H2.cell (i:=2) rfl rfl,H2.cell (i:=5) rfl rfl⟩
  clear hK K hHeld
  have hHeld:=hHeld2
  clear hHeld2
  clear H
  have H:=Lib.hid H2
  clear H2
  try simp only [Array.reduceGetElem,zs]
  refine wpAnyM_ready (rs:=[6]) (by kernel_rfl) (by simp) ?_
  refine AllReadyM.cons rfl (fun K hK=>?_) AllReadyM.nil
  rw [if_pos (by rfl)]
  refine H.out.o_append (r:=plD zPl) rfl Tryz.underlying52 iPl_ rfl (by decide) (by decide) 0 rfl rfl rfl rfl rfl 0 rfl (plD_len _) (row_zPl _ _) (by show 1+1≤1000000;decide) (fun wl ao cap _ H2=>?_)
  obtain ⟨g,rfl⟩:=H2.st.someA (i:=0) rfl
  refine hK.out _ _ ?_ (fun hHeld2=>?_)
  ·exact ⟨H2.cell (i:=2) rfl rfl,H2.cell (i:=5) rfl rfl⟩
  clear hK K hHeld
  have hHeld:=hHeld2
  clear hHeld2
  clear H
  have H:=Lib.hid H2
  clear H2
  try simp only [Array.reduceGetElem,zs]
  refine tkP 7 rfl (by kernel_rfl) hHeld (Or.inl ⟨by rfl,by intro w hSw;clear hSw;go_simp<;>with_reducible rfl⟩) ?_
  try simp only [Array.reduceGetElem,zs]
  refine tkM 9 rfl (by kernel_rfl) hHeld (Or.inl ⟨by rfl,by intro w hSw;(try dsimp only at hSw);go_simp<;>with_reducible rfl⟩) ?_
  try simp only [Array.reduceGetElem,zs]
  refine wpAnyM_ready (rs:=[8,10]) (by kernel_rfl) (by simp) ?_
  refine AllReadyM.cons rfl (fun K hK=>?_) (AllReadyM.last rfl (by kernel_rfl) (fun K hK=>?_) AllReadyM.nil)
  ·rw [if_pos (by rfl)]
   refine H.out.o_put (R:=[plD over]) (C:=[(plC over (.slice u0 m0 q0) (.slice u1 m1 q1) (.slice u2 m2 q2) (.slice u3 m3 q3) (.slice u4 m4 q4) (.slice u5 m5 q5) (.slice u6 m6 q6))]) (r:=plD (partP dp s1).1) rfl 0 rfl (by rfl) rfl rfl sPl_ (plD_len _) (H.out.st.rowAt (j:=0) rfl) (fun wl H2=>?_)
   refine hK.out _ _ ?_ (fun hHeld2=>?_)
   ·exact ⟨H2.cell (i:=2) rfl rfl,H2.cell (i:=5) rfl rfl⟩
   clear hK K hHeld
   have hHeld:=hHeld2
   clear hHeld2
   clear H
   have H:=Lib.hid H2
   clear H2
   try simp only [Array.reduceGetElem,zs]
   refine wpAnyM_ready (rs:=[10]) (by kernel_rfl) (by simp) ?_
   refine AllReadyM.last rfl (by kernel_rfl) (fun K hK=>?_) AllReadyM.nil
   rw [if_pos (by rfl)]
   refine H.out.o_store1 rfl rfl rfl 2 rfl (Nat.le_of_ble_eq_true rfl) sSPl_ rfl (fun wl H2=>?_)
   refine hK.out _ _ ?_
   clear hK K
   clear H
   have H:=Lib.hid H2
   clear H2
   try simp only [Array.reduceGetElem,zs]
   refine wpAnyM_done (by kernel_rfl) ?_ _
   go_wp2_with (first|(refine St.w_load (ty:=57) H.out.st (by rfl) rfl rfl 2 rfl uPl_ sPl_ ?_)|(refine Sr.w_store (ty:=57) H.out (by rfl) rfl rfl rfl 3 rfl rfl rfl sPl_ (all_one rfl) ?_;intro wn H2;replace H:=Lib.hid H2;clear H2))
   refine bodyPost_ret (H.out.st.results Tryz.results89 (by rfl) 3 rfl uPl_ sPl_) rfl ?_
   have H3:=H.out.shut
   have hr:=row_pl (x:=.mk 7 [] [over,(partP dp s1).1] zEx [] [] [] [] [] 0) ⟨(by show Rep _ _ (.sl 16 (plDs [over,_])) _;rw [plDs_map];exact rep1 (H3.st.rowAt (j:=0) rfl)),(by show Rep _ _ (.sl 7 (exDs [])) _;rw [exDs];exact Rep.nil _ _ _),(Rep.nil _ _ _),(by show Rep _ _ (.sl 7 (exDs [])) _;rw [exDs];exact Rep.nil _ _ _),(Rep.nil _ _ _),(Rep.nil _ _ _),(Rep.nil _ _ _)⟩
   have H4:=(H3.put hr).drop (.cons _ (.cons _ (.cons _ (.cons _ (.cons _ (.cons _ (List.Sublist.refl _)))))))
   rw [HE.out]
   exact ⟨_,rfl,H4.less (by intro q hq;rcases List.mem_cons.1 hq with rfl|hq;exact List.mem_cons_self;exact List.mem_cons_of_mem _ (List.mem_cons_of_mem _ (List.mem_cons_of_mem _ (hq))))⟩
  ·rw [if_pos (by rfl)]
   refine H.out.o_store1 rfl rfl rfl 2 rfl (Nat.le_of_ble_eq_true rfl) sSPl_ rfl (fun wl H2=>?_)
   refine hK.out _ _ ?_
   clear hK K
   clear H
   have H:=Lib.hid H2
   clear H2
   try simp only [Array.reduceGetElem,zs]
   refine wpAnyM_ready (rs:=[8]) (by kernel_rfl) (by simp) ?_
   refine AllReadyM.last rfl (by kernel_rfl) (fun K hK=>?_) AllReadyM.nil
   rw [if_pos (by rfl)]
   refine H.out.o_put (R:=[plD over]) (C:=[(plC over (.slice u0 m0 q0) (.slice u1 m1 q1) (.slice u2 m2 q2) (.slice u3 m3 q3) (.slice u4 m4 q4) (.slice u5 m5 q5) (.slice u6 m6 q6))]) (r:=plD (partP dp s1).1) rfl 0 rfl (by rfl) rfl rfl sPl_ (plD_len _) (H.out.st.rowAt (j:=0) rfl) (fun wl H2=>?_)
   refine hK.out _ _ ?_
   clear hK K
   clear H
   have H:=Lib.hid H2
   clear H2
   try simp only [Array.reduceGetElem,zs]
   refine wpAnyM_done (by kernel_rfl) ?_ _
   go_wp2_with (first|(refine St.w_load (ty:=57) H.out.st (by rfl) rfl rfl 2 rfl uPl_ sPl_ ?_)|(refine Sr.w_store (ty:=57) H.out (by rfl) rfl rfl rfl 3 rfl rfl rfl sPl_ (all_one rfl) ?_;intro wn H2;replace H:=Lib.hid H2;clear H2))
   refine bodyPost_ret (H.out.st.results Tryz.results89 (by rfl) 3 rfl uPl_ sPl_) rfl ?_
   have H3:=H.out.shut
   have hr:=row_pl (x:=.mk 7 [] [over,(partP dp s1).1] zEx [] [] [] [] [] 0) ⟨(by show Rep _ _ (.sl 16 (plDs [over,_])) _;rw [plDs_map];exact rep1 (H3.st.rowAt (j:=0) rfl)),(by show Rep _ _ (.sl 7 (exDs [])) _;rw [exDs];exact Rep.nil _ _ _),(Rep.nil _ _ _),(by show Rep _ _ (.sl 7 (exDs [])) _;rw [exDs];exact Rep.nil _ _ _),(Rep.nil _ _ _),(Rep.nil _ _ _),(Rep.nil _ _ _)⟩
   have H4:=(H3.put hr).drop (.cons _ (.cons _ (.cons _ (.cons _ (.cons _ (.cons _ (List.Sublist.refl _)))))))
   rw [HE.out]
   exact ⟨_,rfl,H4.less (by intro q hq;rcases List.mem_cons.1 hq with rfl|hq;exact List.mem_cons_self;exact List.mem_cons_of_mem _ (List.mem_cons_of_mem _ (List.mem_cons_of_mem _ (hq))))⟩
 ·rw [if_pos (by rfl)]
  refine H.out.o_lit1 rfl Tryz.underlying52 iPl2_ rfl rfl (by decide) (by decide) rfl rfl (fun wl Cl H2=>?_)
  refine hK.out _ _ ?_ (fun hHeld2=>?_)
  ·exact ⟨H2.cell (i:=2) rfl rfl,H2.cell (i:=5) rfl rfl⟩
  clear hK K hHeld
  have hHeld:=hHeld2
  clear hHeld2
  clear H
  have H:=Lib.hid H2
  clear H2
  try simp only [Array.reduceGetElem,zs]
  refine wpAnyM_ready (rs:=[3]) (by kernel_rfl) (by simp) ?_
  refine AllReadyM.cons rfl (fun K hK=>?_) AllReadyM.nil
  go_simp
  go_at_call 87
  (with_reducible (refine (HD.out _ s1 H.out.pat).mono ?_))
  intro e wc hR
  obtain ⟨a0,n0,k0,a1,n1,k1,a2,n2,k2,a3,n3,k3,a4,n4,k4,a5,n5,k5,a6,n6,k6,rfl,hX,hK,hP⟩:=PlTo.of hR
  have H2:=H.out.callR hK hP hX
  clear hX hK hP hR
  try dsimp only
  refine hK.out _ _ ?_ (fun hHeld2=>?_)
  ·exact ⟨H2.cell (i:=2) rfl rfl,H2.cell (i:=5) rfl rfl⟩
  clear hK K hHeld
  have hHeld:=hHeld2
  clear hHeld2
  clear H
  have H:=Lib.hid H2
  clear H2
  try simp only [Array.reduceGetElem,zs]
  refine wpAnyM_ready (rs:=[6]) (by kernel_rfl) (by simp) ?_
  refine AllReadyM.cons rfl (fun K hK=>?_) AllReadyM.nil
  rw [if_pos (by rfl)]
  refine H.out.o_append (r:=plD zPl) rfl Tryz.underlying52 iPl_ rfl (by decide) (by decide) 0 rfl rfl rfl rfl rfl 0 rfl (plD_len _) (row_zPl _ _) (by show 1+1≤1000000;decide) (fun wl ao cap _ H2=>?_)
  obtain ⟨g,rfl⟩:=H2.st.someA (i:=0) rfl
  refine hK.out _ _ ?_ (fun hHeld2=>?_)
  ·exact ⟨H2.cell (i:=2) rfl rfl,H2.cell (i:=5) rfl rfl⟩
  clear hK K hHeld
  have hHeld:=hHeld2
  clear hHeld2
  clear H
  have H:=Lib.hid H2
  clear H2
  try simp only [Array.reduceGetElem,zs]
  refine tkP 7 rfl (by kernel_rfl) hHeld (Or.inl ⟨by rfl,by intro w hSw;clear hSw;go_simp<;>with_reducible rfl⟩) ?_
  try simp only [Array.reduceGetElem,zs]
  refine tkM 9 rfl (by kernel_rfl) hHeld (Or.inl ⟨by rfl,by intro w hSw;(try dsimp only at hSw);go_simp<;>with_reducible rfl⟩) ?_
  try simp only [Array.reduceGetElem,zs]
  refine wpAnyM_ready (rs:=[8,10]) (by kernel_rfl) (by simp) ?_
  refine AllReadyM.cons rfl (fun K hK=>?_) (AllReadyM.last rfl (by kernel_rfl) (fun K hK=>?_) AllReadyM.nil)
  ·rw [if_pos (by rfl)]
   refine H.out.o_put (R:=[plD over]) (C:=[(plC over (.slice u0 m0 q0) (.slice u1 m1 q1) (.slice u2 m2 q2) (.slice u3 m3 q3) (.slice u4 m4 q4) (.slice u5 m5 q5) (.slice u6 m6 q6))]) (r:=plD (partP dp s1).1) rfl 0 rfl (by rfl) rfl rfl sPl_ (plD_len _) (H.out.st.rowAt (j:=0) rfl) (fun wl H2=>?_)
   refine hK.out _ _ ?_ (fun hHeld2=>?_)
   ·exact ⟨H2.cell (i:=2) rfl rfl,H2.cell (i:=5) rfl rfl⟩
   clear hK K hHeld
   have hHeld:=hHeld2
   clear hHeld2
   clear H
   have H:=Lib.hid H2
   clear H2
   try simp only [Array.reduceGetElem,zs]
   refine wpAnyM_ready (rs:=[10]) (by kernel_rfl) (by simp) ?_
   refine AllReadyM.last rfl (by kernel_rfl) (fun K hK=>?_) AllReadyM.nil
   rw [if_pos (by rfl)]
   refine H.out.o_store1 rfl rfl rfl 2 rfl (Nat.le_of_ble_eq_true rfl) sSPl_ rfl (fun wl H2=>?_)
   refine hK.out _ _ ?_
   clear hK K
   clear H
   have H:=Lib.hid H2
   clear H2
   try simp only [Array.reduceGetElem,zs]
   refine wpAnyM_done (by kernel_rfl) ?_ _
   go_wp2_with (first|(refine St.w_load (ty:=57) H.out.st (by rfl) rfl rfl 2 rfl uPl_ sPl_ ?_)|(refine Sr.w_store (ty:=57) H.out (by rfl) rfl rfl rfl 3 rfl rfl rfl sPl_ (all_one rfl) ?_;intro wn H2;replace H:=Lib.hid H2;clear H2))
   refine bodyPost_ret (H.out.st.results Tryz.results89 (by rfl) 3 rfl uPl_ sPl_) rfl ?_
   have H3:=H.out.shut
   have hr:=row_pl (x:=.mk 7 [] [over,(partP dp s1).1] zEx [] [] [] [] [] 0) ⟨(by show Rep _ _ (.sl 16 (plDs [over,_])) _;rw [plDs_map];exact rep1 (H3.st.rowAt (j:=0) rfl)),(by show Rep _ _ (.sl 7 (exDs [])) _;rw [exDs];exact Rep.nil _ _ _),(Rep.nil _ _ _),(by show Rep _ _ (.sl 7 (exDs [])) _;rw [exDs];exact Rep.nil _ _ _),(Rep.nil _ _ _),(Rep.nil _ _ _),(Rep.nil _ _ _)⟩
   have H4:=(H3.put hr).drop (.cons _ (.cons _ (.cons _ (.cons _ (.cons _ (.cons _ (List.Sublist.refl _)))))))
   rw [HE.out]
   exact ⟨_,rfl,H4.less (by intro q hq;rcases List.mem_cons.1 hq with rfl|hq;exact List.mem_cons_self;exact List.mem_cons_of_mem _ (List.mem_cons_of_mem _ (List.mem_cons_of_mem _ (hq))))⟩
  ·rw [if_pos (by rfl)]
   refine H.out.o_store1 rfl rfl rfl 2 rfl (Nat.le_of_ble_eq_true rfl) sSPl_ rfl (fun wl H2=>?_)
   refine hK.out _ _ ?_
   clear hK K
   clear H
   have H:=Lib.hid H2
   clear H2
   try simp only [Array.reduceGetElem,zs]
   refine wpAnyM_ready (rs:=[8]) (by kernel_rfl) (by simp) ?_
   refine AllReadyM.last rfl (by kernel_rfl) (fun K hK=>?_) AllReadyM.nil
   rw [if_pos (by rfl)]
   refine H.out.o_put (R:=[plD over]) (C:=[(plC over (.slice u0 m0 q0) (.slice u1 m1 q1) (.slice u2 m2 q2) (.slice u3 m3 q3) (.slice u4 m4 q4) (.slice u5 m5 q5) (.slice u6 m6 q6))]) (r:=plD (partP dp s1).1) rfl 0 rfl (by rfl) rfl rfl sPl_ (plD_len _) (H.out.st.rowAt (j:=0) rfl) (fun wl H2=>?_)
   refine hK.out _ _ ?_
   clear hK K
   clear H
   have H:=Lib.hid H2
   clear H2
   try simp only [Array.reduceGetElem,zs]
   refine wpAnyM_done (by kernel_rfl) ?_ _
   go_wp2_with (first|(refine St.w_load (ty:=57) H.out.st (by rfl) rfl rfl 2 rfl uPl_ sPl_ ?_)|(refine Sr.w_store (ty:=57) H.out (by rfl) rfl rfl rfl 3 rfl rfl rfl sPl_ (all_one rfl) ?_;intro wn H2;replace H:=Lib.hid H2;clear H2))
   refine bodyPost_ret (H.out.st.results Tryz.results89 (by rfl) 3 rfl uPl_ sPl_) rfl ?_
   have H3:=H.out.shut
   have hr:=row_pl (x:=.mk 7 [] [over,(partP dp s1).1] zEx [] [] [] [] [] 0) ⟨(by show Rep _ _ (.sl 16 (plDs [over,_])) _;rw [plDs_map];exact rep1 (H3.st.rowAt (j:=0) rfl)),(by show Rep _ _ (.sl 7 (exDs [])) _;rw [exDs];exact Rep.nil _ _ _),(Rep.nil _ _ _),(by show Rep _ _ (.sl 7 (exDs [])) _;rw [exDs];exact Rep.nil _ _ _),(Rep.nil _ _ _),(Rep.nil _ _ _),(Rep.nil _ _ _)⟩
   have H4:=(H3.put hr).drop (.cons _ (.cons _ (.cons _ (.cons _ (.cons _ (.cons _ (List.Sublist.refl _)))))))
   rw [HE.out]
   exact ⟨_,rfl,H4.less (by intro q hq;rcases List.mem_cons.1 hq with rfl|hq;exact List.mem_cons_self;exact List.mem_cons_of_mem _ (List.mem_cons_of_mem _ (List.mem_cons_of_mem _ (hq))))⟩
 end Go.Proofs.YtonkjhmkppeagaaGreatDoor.Pz
