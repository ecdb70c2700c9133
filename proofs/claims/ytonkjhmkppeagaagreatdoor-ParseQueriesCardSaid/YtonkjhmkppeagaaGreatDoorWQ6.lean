/- Walks: what first, group and join put into a plan. -/
import Derived.Test.YtonkjhmkppeagaaGreatDoorWQd
set_option maxRecDepth 100000
set_option maxHeartbeats 1600000
set_option linter.unusedVariables false
set_option linter.unusedSimpArgs false
namespace Go.Proofs.YtonkjhmkppeagaaGreatDoor.Pz
open Go.Proofs.Tryz
open Go.Lib (hid)
open Go.RowKit Go Go.Sort Ba Lx
theorem zcR {us:List Value} {i:Nat} {v:Value} (h:us[i]?=some v):us.set i v=us:=by
 apply List.ext_getElem?;intro j;rw[List.getElem?_set];split
 ·rename_i e
  subst e;have hl:=(yE.1 h).1;rw[if_pos hl,h]
 ·rfl
theorem zeI {W:World} {ok:Nat→Prop} (k:Nat):Row W ok [.sl k []] [.slice none 0 0]:=(Row.nil W ok).cons (Rep.nil W ok k)
theorem zof {w0:World} {B d ia A:Nat} {Lq:List Value→List Bx} (hA:∀ us,(Lq us)[ia]?=some (A,us)) (hset:∀ us vs,(Lq us).set ia (A,vs)=Lq vs) {D:List (List Dat×List Value)} {O:List Ow} (us:List Value) (hl:us.length=16) (h14:us[14]?=some (.slice none 0 0)) (w:World) (s:Ps) (h:Sr B d w0 w s (Lq us) D O) :
 Calls Tryz.prog 114 #[.pointer (some ⟨B,0,none⟩),.pointer (some ⟨A,0,none⟩)] w fun e w'=>e=.returned (.tuple #[])∧∃ v,Sr B d w0 w' (zck s).2 (Lq ((us.set 15 (.int .i64 (zck s).1.1)).set 14 v)) (([.sl 2 ((zck s).1.2.map ordD)],[v])::D) O:=by
 have H:=hid h;have HL:=hid hl;obtain ⟨us2,hus2⟩:∃ us2,us.set 15 (.int .i64 (zae 2 s).1.n)=us2:=⟨_,rfl⟩;have HN:us2[14]?=some (.slice none 0 0):=by rw[← hus2,List.getElem?_set_ne (by decide)];exact h14
 obtain ⟨s2,hs2⟩:∃ s2,(zae 2 s).2=s2:=⟨_,rfl⟩;have hf2:=fun W=>zcT (zae 2 s).1.k (zae 2 s).1.n (zae 2 s).1.p ⟨(zae 2 s).1.t.toArray⟩ W
 have HF:Hid (zck s=(((zae 2 s).1.n,(za5 s2).1),(za5 s2).2)):=by show zck s=_;unfold zck;rw[hs2]
 have HS2:=hid hs2;have HU2:=hid hus2
 cases hx:isP s2 sBy with
 | true =>
  have HM:Hid (∀ W,PAt W B d s2→Calls Tryz.prog 88 #[.pointer (some ⟨B,0,none⟩),.string ⟨#[98,121]⟩] W (zdK W B d true (advP s2))):=fun W hW=>zbO _ _ hx W B d hW
  have HB:Hid (za5 s2=listP zaW [] (advP s2)):=by show za5 s2=_;unfold za5;rw[if_pos hx]
  have HG:Hid (∀ (us2:List Value) (C Q:Nat) (W:World) (D:List (List Dat×List Value)),us2[14]?=some (.slice none 0 0)→Sr B d w0 W (advP s2) ((Q,[.pointer (some ⟨A,0,none⟩)])::(C,[.pointer (some ⟨B,0,none⟩)])::Lq us2) D O→Calls Tryz.prog 110 #[.pointer (some ⟨B,0,none⟩),.func (.func 146) #[] #[.pointer (some ⟨C,0,none⟩),.pointer (some ⟨Q,0,none⟩)]] W fun e w'=>e=.returned (.tuple #[])∧∃ v,Sr B d w0 w' (listP zaW [] (advP s2)).2 (Lq (us2.set 14 v)) (([.sl 2 ((listP zaW [] (advP s2)).1.map ordD)],[v])::D) O):=fun us2 C Q W D hnil hs=>by
   have hl2:14<us2.length:=(yE.1 hnil).1;have:=zcz (Lf:=fun v=>(Q,[.pointer (some ⟨A,0,none⟩)])::(C,[.pointer (some ⟨B,0,none⟩)])::Lq (us2.set 14 v)) (T:=69) (k:=2) (rD:=ordD) 146 (enters_of func146 (by kernel_rfl) rfl) _ zaW zcC
    (fun W acc s hg=>zl2 (us:=fun v=>us2.set 14 v) (ia:=ia+2) (ic:=1) (iq:=0) (fun v=>hA _) (fun v=>List.getElem?_set_self hl2) (fun _=>rfl) (fun v v'=>by show _::_::(Lq _).set ia _=_;rw[hset,List.set_set]) (fun _=>rfl) W acc s hg) W (advP s2) (by rw[zcR hnil];exact hs)
   refine this.mono fun e w' ⟨he,ao,cp,cells,hj⟩=>?_
   exact ⟨he,_,(hj.drop (.cons _ (.cons _ (List.Sublist.refl _)))).shut⟩
  clear h hl h14 hus2 hs2 hx;go_enter func114,ntmps114
  go_wp2_with (first|(refine Sr.w_box (ty:=112) H.out (by rfl) rfl rfl rfl ?_;intro wn C H2;replace H:=hid H2;clear H2)|(refine Sr.w_box (ty:=177) H.out (by rfl) rfl rfl rfl ?_;intro wn Q H2;replace H:=hid H2;clear H2))
  replace H:=hid (H.out.drew);refine zaa 6 (S:=fun W=>(W.cell? ⟨Q,0,none⟩=some (.pointer (some ⟨A,0,none⟩))∧W.cell? ⟨C,0,none⟩=some (.pointer (some ⟨B,0,none⟩)))) (by kernel_rfl) (by exact ⟨H.out.cell (i:=0) rfl rfl,H.out.cell (i:=1) rfl rfl⟩) (fun zJ=>?_);refine tKm 0 ?_;refine tKm 1 ?_;refine rK1 2 fun K hK=>?_
  go_simp;go_at_call 119
  (with_reducible (refine (zcn s 2 (by decide) _ B d H.out.pat).mono ?_))
  rintro e wc ⟨rfl,hK2,hP2⟩;have H2:=H.out.call hK2 hP2;clear hK2 hP2;try dsimp only
  refine hK.out _ _ ?_ (fun zH=>?_)
  ·exact ⟨H2.cell (i:=0) rfl rfl,H2.cell (i:=1) rfl rfl⟩
  replace zJ:=zH;clear hK K;replace H:=hid H2;clear H2;refine tKm 3 ?_;refine tKp 4 ?_;refine tKm 5 ?_;refine rKl 6 fun K hK=>?_
  rw[if_pos (by rfl)];refine H.out.o_store1 rfl rfl rfl (ia+2) (hA us) (by show 15<us.length;rw[HL.out];decide) sInt_ rfl (fun wl H2=>?_);refine hK.out _ _ ?_;clear hK K;replace H:=hid H2;clear H2;refine rKd ?_;have H2:=H.out;rw[show (List.set (_::_::Lq us) (ia+2) _)=_::_::(Lq us).set ia _ from rfl,hset]at H2;change Sr B d w0 _ (zae 2 s).2 ((Q,_)::(C,_)::Lq (us.set 15 (.int .i64 (zae 2 s).1.n))) D O at H2
  rw[HU2.out,HS2.out]at H2;replace H:=hid H2;clear H2;go_wp2_with (first|(refine St.w_load1 (ty:=112) H.out.st (by rfl) rfl rfl 1 rfl rfl uPar_ ?_)|(go_at_call 88;(with_reducible (refine (HM.out _ H.out.pat).mono ?_));rintro e wc ⟨rfl,hK,hP⟩;replace H:=hid (H.out.call hK hP);clear hK hP)|(go_at_call 110;(with_reducible (refine (HG.out _ _ _ _ _ HN H.out).mono ?_));rintro e wc ⟨rfl,v9,H2⟩;replace H:=hid H2;clear H2))
  go_end0
  rw[HF.out,HB.out];dsimp only;rw[HU2.out];exact ⟨rfl,v9,H.out⟩
 | false =>
  have HM:Hid (∀ W,PAt W B d s2→Calls Tryz.prog 88 #[.pointer (some ⟨B,0,none⟩),.string ⟨#[98,121]⟩] W (zdK W B d false s2)):=fun W hW=>zbg _ _ hx W B d hW
  have HB:Hid (za5 s2=([],s2)):=by show za5 s2=_;unfold za5;rw[if_neg (by rw[hx];decide)]
  clear h hl h14 hus2 hs2 hx;go_enter func114,ntmps114
  go_wp2_with (first|(refine Sr.w_box (ty:=112) H.out (by rfl) rfl rfl rfl ?_;intro wn C H2;replace H:=hid H2;clear H2)|(refine Sr.w_box (ty:=177) H.out (by rfl) rfl rfl rfl ?_;intro wn Q H2;replace H:=hid H2;clear H2))
  replace H:=hid (H.out.drew);refine zaa 6 (S:=fun W=>(W.cell? ⟨Q,0,none⟩=some (.pointer (some ⟨A,0,none⟩))∧W.cell? ⟨C,0,none⟩=some (.pointer (some ⟨B,0,none⟩)))) (by kernel_rfl) (by exact ⟨H.out.cell (i:=0) rfl rfl,H.out.cell (i:=1) rfl rfl⟩) (fun zJ=>?_);refine tKm 0 ?_;refine tKm 1 ?_;refine rK1 2 fun K hK=>?_
  go_simp;go_at_call 119
  (with_reducible (refine (zcn s 2 (by decide) _ B d H.out.pat).mono ?_))
  rintro e wc ⟨rfl,hK2,hP2⟩;have H2:=H.out.call hK2 hP2;clear hK2 hP2;try dsimp only
  refine hK.out _ _ ?_ (fun zH=>?_)
  ·exact ⟨H2.cell (i:=0) rfl rfl,H2.cell (i:=1) rfl rfl⟩
  replace zJ:=zH;clear hK K;replace H:=hid H2;clear H2;refine tKm 3 ?_;refine tKp 4 ?_;refine tKm 5 ?_;refine rKl 6 fun K hK=>?_
  rw[if_pos (by rfl)];refine H.out.o_store1 rfl rfl rfl (ia+2) (hA us) (by show 15<us.length;rw[HL.out];decide) sInt_ rfl (fun wl H2=>?_);refine hK.out _ _ ?_;clear hK K;replace H:=hid H2;clear H2;refine rKd ?_;have H2:=H.out;rw[show (List.set (_::_::Lq us) (ia+2) _)=_::_::(Lq us).set ia _ from rfl,hset]at H2;change Sr B d w0 _ (zae 2 s).2 ((Q,_)::(C,_)::Lq (us.set 15 (.int .i64 (zae 2 s).1.n))) D O at H2
  rw[HU2.out,HS2.out]at H2;replace H:=hid H2;clear H2;go_wp2_with (first|(refine St.w_load1 (ty:=112) H.out.st (by rfl) rfl rfl 1 rfl rfl uPar_ ?_)|(go_at_call 88;(with_reducible (refine (HM.out _ H.out.pat).mono ?_));rintro e wc ⟨rfl,hK,hP⟩;replace H:=hid (H.out.call hK hP);clear hK hP)|(go_at_call 110;(with_reducible (refine (HG.out _ _ _ _ _ HN H.out).mono ?_));rintro e wc ⟨rfl,v9,H2⟩;replace H:=hid H2;clear H2))
  go_end0
  rw[HF.out,HB.out];dsimp only;rw[HU2.out];have H3:=(H.out.drop (.cons _ (.cons _ (List.Sublist.refl _)))).put (zeI 2);exact ⟨rfl,.slice none 0 0,by rw[zcR HN];exact H3⟩
theorem zeb (k n p:Int) (Y:ByteArray) (W:World):(Instr.field 169 (.agg #[.int .i64 k,.string Y,.int .i64 n,.int .i64 p]) 0).run Tryz.prog W=.ok (.int .i64 k) W:=by kernel_rfl
theorem zp1 {w0:World} {B d ia A:Nat} {Lq:List Value→List Bx} (hA:∀ us,(Lq us)[ia]?=some (A,us)) (hset:∀ us vs,(Lq us).set ia (A,vs)=Lq vs) {D:List (List Dat×List Value)} {O:List Ow} (us:List Value) (hl:us.length=16) (h10:us[10]?=some (.slice none 0 0)) (h13:us[13]?=some (.slice none 0 0)) (w:World) (s:Ps) (hx:isP s [58]=true) (hk:(peekP (wantP [58] s)).k=1) (h:Sr B d w0 w s (Lq us) D O) :
 Calls Tryz.prog 113 #[.pointer (some ⟨B,0,none⟩),.pointer (some ⟨A,0,none⟩)] w fun e w'=>e=.returned (.tuple #[])∧∃ v10 v13,Sr B d w0 w' (za2 s).2 (Lq ((us.set 10 v10).set 13 v13)) (([.sl 3 ((za2 s).1.2.map aggD)],[v13])::([.sl 1 ((za2 s).1.1.map strD)],[v10])::D) O:=by
 have H:=hid h;have HL:=hid hl;have HIS:Hid (∀ W,PAt W B d s→Calls Tryz.prog 107 #[.pointer (some ⟨B,0,none⟩),.string ⟨#[58]⟩] W fun e w'=>e=.returned (.bool true)∧Below W.heap.size W w'):=fun W hW=>zbP s [58] true hx W B d hW
 obtain ⟨t,ht⟩:∃ t,peekP (wantP [58] s)=t:=⟨_,rfl⟩;obtain ⟨Y,hY⟩:∃ Y:ByteArray,(⟨t.t.toArray⟩:ByteArray)=Y:=⟨_,rfl⟩;have HPK:=hid (fun W hW=>zb0 (wantP [58] s) t Y ht hY W B d hW);obtain ⟨kk,hkk⟩:∃ q,t.k=q:=⟨_,rfl⟩;rw[hkk]at HPK;have HP:=HPK;have hkn:(kk != 1)=false:=by
  rw[ht,hkk]at hk;rw[hk];rfl
 have hf0:=fun W=>zeb kk t.n t.p Y W
 have HF:Hid (za2 s=(([],(listP zah [] (wantP [58] s)).1),(listP zah [] (wantP [58] s)).2)):=by
  show za2 s=_
  unfold za2;rw[show zav s=([],s) from by unfold zav;rw[if_pos hx]];simp only;rw[show zaO (wantP [58] s)=listP zah [] (wantP [58] s) from by unfold zaO;rw[if_pos hk]]
 have HG:Hid (∀ (us2:List Value) (C Q:Nat) (W:World) (D:List (List Dat×List Value)),us2[13]?=some (.slice none 0 0)→Sr B d w0 W (wantP [58] s) ((Q,[.pointer (some ⟨A,0,none⟩)])::(C,[.pointer (some ⟨B,0,none⟩)])::Lq us2) D O→Calls Tryz.prog 110 #[.pointer (some ⟨B,0,none⟩),.func (.func 145) #[] #[.pointer (some ⟨C,0,none⟩),.pointer (some ⟨Q,0,none⟩)]] W fun e w'=>e=.returned (.tuple #[])∧∃ v,Sr B d w0 w' (listP zah [] (wantP [58] s)).2 (Lq (us2.set 13 v)) (([.sl 3 ((listP zah [] (wantP [58] s)).1.map aggD)],[v])::D) O):=fun us2 C Q W D hnil hs=>by
  have hl2:13<us2.length:=(yE.1 hnil).1;have:=zcz (Lf:=fun v=>(Q,[.pointer (some ⟨A,0,none⟩)])::(C,[.pointer (some ⟨B,0,none⟩)])::Lq (us2.set 13 v)) (T:=67) (k:=3) (rD:=aggD) 145 (enters_of func145 (by kernel_rfl) rfl) _ zah zaV
   (fun W acc s hg=>zg8 (us:=fun v=>us2.set 13 v) (ia:=ia+2) (ic:=1) (iq:=0) (fun v=>hA _) (fun v=>List.getElem?_set_self hl2) (fun _=>rfl) (fun v v'=>by show _::_::(Lq _).set ia _=_;rw[hset,List.set_set]) (fun _=>rfl) W acc s hg) W (wantP [58] s) (by rw[zcR hnil];exact hs)
  refine this.mono fun e w' ⟨he,ao,cp,cells,hj⟩=>?_
  exact ⟨he,_,(hj.drop (.cons _ (.cons _ (List.Sublist.refl _)))).shut⟩
 have HN:us[13]?=some (.slice none 0 0):=h13;clear h hl hx hk ht hY hkk HPK;replace H:=hid (H.out.put (zeI 1));go_enter func113,ntmps113
 go_wp2_with (first|(refine Sr.w_box (ty:=112) H.out (by rfl) rfl rfl rfl ?_;intro wn C H2;replace H:=hid H2;clear H2)|(refine Sr.w_box (ty:=177) H.out (by rfl) rfl rfl rfl ?_;intro wn Q H2;replace H:=hid H2;clear H2)|(go_at_call 107;(with_reducible (refine (HIS.out _ H.out.pat).mono ?_));rintro e wc ⟨rfl,hb⟩;replace H:=hid (H.out.below hb);clear hb)|(refine St.w_load1 (ty:=112) H.out.st (by rfl) rfl rfl 1 rfl rfl uPar_ ?_)|(go_at_call 94;(with_reducible (refine (zar s [58] _ B d H.out.pat).mono ?_));rintro e wc ⟨rfl,hK,hP⟩;replace H:=hid (H.out.call hK hP);clear hK hP)|(go_at_call 143;(with_reducible (refine (HP.out _ H.out.pat).mono ?_));rintro e wc ⟨rfl,hb⟩;replace H:=hid (H.out.below hb);clear hb)|(go_at_call 110;(with_reducible (refine (HG.out _ _ _ _ _ HN H.out).mono ?_));rintro e wc ⟨rfl,v9,H2⟩;replace H:=hid H2;clear H2))
 go_end0
 rw[HF.out];dsimp only;exact ⟨rfl,(.slice none 0 0),v9,by rw[zcR h10];exact H.out⟩
theorem zp2 {w0:World} {B d ia A:Nat} {Lq:List Value→List Bx} (hA:∀ us,(Lq us)[ia]?=some (A,us)) (hset:∀ us vs,(Lq us).set ia (A,vs)=Lq vs) {D:List (List Dat×List Value)} {O:List Ow} (us:List Value) (hl:us.length=16) (h10:us[10]?=some (.slice none 0 0)) (h13:us[13]?=some (.slice none 0 0)) (w:World) (s:Ps) (hx:isP s [58]=true) (hk:(peekP (wantP [58] s)).k≠1) (h:Sr B d w0 w s (Lq us) D O) :
 Calls Tryz.prog 113 #[.pointer (some ⟨B,0,none⟩),.pointer (some ⟨A,0,none⟩)] w fun e w'=>e=.returned (.tuple #[])∧∃ v10 v13,Sr B d w0 w' (za2 s).2 (Lq ((us.set 10 v10).set 13 v13)) (([.sl 3 ((za2 s).1.2.map aggD)],[v13])::([.sl 1 ((za2 s).1.1.map strD)],[v10])::D) O:=by
 have H:=hid h;have HL:=hid hl;have HIS:Hid (∀ W,PAt W B d s→Calls Tryz.prog 107 #[.pointer (some ⟨B,0,none⟩),.string ⟨#[58]⟩] W fun e w'=>e=.returned (.bool true)∧Below W.heap.size W w'):=fun W hW=>zbP s [58] true hx W B d hW
 obtain ⟨t,ht⟩:∃ t,peekP (wantP [58] s)=t:=⟨_,rfl⟩;obtain ⟨Y,hY⟩:∃ Y:ByteArray,(⟨t.t.toArray⟩:ByteArray)=Y:=⟨_,rfl⟩;have HPK:=hid (fun W hW=>zb0 (wantP [58] s) t Y ht hY W B d hW);obtain ⟨kk,hkk⟩:∃ q,t.k=q:=⟨_,rfl⟩;rw[hkk]at HPK;have HP:=HPK;have hkn:(kk != 1)=true:=by
  rw[ht,hkk]at hk;simpa using hk
 have hf0:=fun W=>zeb kk t.n t.p Y W
 have HF:Hid (za2 s=(([],[]),(wantP [58] s))):=by
  show za2 s=_
  unfold za2;rw[show zav s=([],s) from by unfold zav;rw[if_pos hx]];simp only;rw[show zaO (wantP [58] s)=([],(wantP [58] s)) from by unfold zaO;rw[if_neg hk]]
 skip
 have HN:us[13]?=some (.slice none 0 0):=h13;clear h hl hx hk ht hY hkk HPK;replace H:=hid (H.out.put (zeI 1));go_enter func113,ntmps113
 go_wp2_with (first|(refine Sr.w_box (ty:=112) H.out (by rfl) rfl rfl rfl ?_;intro wn C H2;replace H:=hid H2;clear H2)|(refine Sr.w_box (ty:=177) H.out (by rfl) rfl rfl rfl ?_;intro wn Q H2;replace H:=hid H2;clear H2)|(go_at_call 107;(with_reducible (refine (HIS.out _ H.out.pat).mono ?_));rintro e wc ⟨rfl,hb⟩;replace H:=hid (H.out.below hb);clear hb)|(refine St.w_load1 (ty:=112) H.out.st (by rfl) rfl rfl 1 rfl rfl uPar_ ?_)|(go_at_call 94;(with_reducible (refine (zar s [58] _ B d H.out.pat).mono ?_));rintro e wc ⟨rfl,hK,hP⟩;replace H:=hid (H.out.call hK hP);clear hK hP)|(go_at_call 143;(with_reducible (refine (HP.out _ H.out.pat).mono ?_));rintro e wc ⟨rfl,hb⟩;replace H:=hid (H.out.below hb);clear hb)|(go_at_call 110;(with_reducible (refine (HG.out _ _ _ _ _ HN H.out).mono ?_));rintro e wc ⟨rfl,v9,H2⟩;replace H:=hid H2;clear H2))
 refine bodyPost_ret (results_none rfl _ _ _) rfl ?_;rw[HF.out];dsimp only;have H3:=(H.out.drop (.cons _ (.cons _ (List.Sublist.refl _)))).put (zeI 3);exact ⟨rfl,(.slice none 0 0),.slice none 0 0,by rw[zcR h10,zcR h13];exact H3⟩
theorem zp3 {w0:World} {B d ia A:Nat} {Lq:List Value→List Bx} (hA:∀ us,(Lq us)[ia]?=some (A,us)) (hset:∀ us vs,(Lq us).set ia (A,vs)=Lq vs) {D:List (List Dat×List Value)} {O:List Ow} (us:List Value) (hl:us.length=16) (h10:us[10]?=some (.slice none 0 0)) (h13:us[13]?=some (.slice none 0 0)) (w:World) (s:Ps) (hx:isP s [58]=false) (hk:(peekP (wantP [58] (zaL s).2)).k=1) (h:Sr B d w0 w s (Lq us) D O) :
 Calls Tryz.prog 113 #[.pointer (some ⟨B,0,none⟩),.pointer (some ⟨A,0,none⟩)] w fun e w'=>e=.returned (.tuple #[])∧∃ v10 v13,Sr B d w0 w' (za2 s).2 (Lq ((us.set 10 v10).set 13 v13)) (([.sl 3 ((za2 s).1.2.map aggD)],[v13])::([.sl 1 ((za2 s).1.1.map strD)],[v10])::D) O:=by
 have H:=hid h;have HL:=hid hl;have HIS:Hid (∀ W,PAt W B d s→Calls Tryz.prog 107 #[.pointer (some ⟨B,0,none⟩),.string ⟨#[58]⟩] W fun e w'=>e=.returned (.bool false)∧Below W.heap.size W w'):=fun W hW=>zbP s [58] false hx W B d hW
 obtain ⟨t,ht⟩:∃ t,peekP (wantP [58] (zaL s).2)=t:=⟨_,rfl⟩;obtain ⟨Y,hY⟩:∃ Y:ByteArray,(⟨t.t.toArray⟩:ByteArray)=Y:=⟨_,rfl⟩;have HPK:=hid (fun W hW=>zb0 (wantP [58] (zaL s).2) t Y ht hY W B d hW);obtain ⟨kk,hkk⟩:∃ q,t.k=q:=⟨_,rfl⟩;rw[hkk]at HPK;have HP:=HPK;have hkn:(kk != 1)=false:=by
  rw[ht,hkk]at hk;rw[hk];rfl
 have hf0:=fun W=>zeb kk t.n t.p Y W
 have HF:Hid (za2 s=(((zaL s).1,(listP zah [] (wantP [58] (zaL s).2)).1),(listP zah [] (wantP [58] (zaL s).2)).2)):=by
  show za2 s=_
  unfold za2;rw[show zav s=((zaL s).1,(zaL s).2) from by unfold zav;rw[if_neg (by rw[hx];decide)]];simp only;rw[show zaO (wantP [58] (zaL s).2)=listP zah [] (wantP [58] (zaL s).2) from by unfold zaO;rw[if_pos hk]]
 have HG:Hid (∀ (us2:List Value) (C Q:Nat) (W:World) (D:List (List Dat×List Value)),us2[13]?=some (.slice none 0 0)→Sr B d w0 W (wantP [58] (zaL s).2) ((Q,[.pointer (some ⟨A,0,none⟩)])::(C,[.pointer (some ⟨B,0,none⟩)])::Lq us2) D O→Calls Tryz.prog 110 #[.pointer (some ⟨B,0,none⟩),.func (.func 145) #[] #[.pointer (some ⟨C,0,none⟩),.pointer (some ⟨Q,0,none⟩)]] W fun e w'=>e=.returned (.tuple #[])∧∃ v,Sr B d w0 w' (listP zah [] (wantP [58] (zaL s).2)).2 (Lq (us2.set 13 v)) (([.sl 3 ((listP zah [] (wantP [58] (zaL s).2)).1.map aggD)],[v])::D) O):=fun us2 C Q W D hnil hs=>by
  have hl2:13<us2.length:=(yE.1 hnil).1;have:=zcz (Lf:=fun v=>(Q,[.pointer (some ⟨A,0,none⟩)])::(C,[.pointer (some ⟨B,0,none⟩)])::Lq (us2.set 13 v)) (T:=67) (k:=3) (rD:=aggD) 145 (enters_of func145 (by kernel_rfl) rfl) _ zah zaV
   (fun W acc s hg=>zg8 (us:=fun v=>us2.set 13 v) (ia:=ia+2) (ic:=1) (iq:=0) (fun v=>hA _) (fun v=>List.getElem?_set_self hl2) (fun _=>rfl) (fun v v'=>by show _::_::(Lq _).set ia _=_;rw[hset,List.set_set]) (fun _=>rfl) W acc s hg) W (wantP [58] (zaL s).2) (by rw[zcR hnil];exact hs)
  refine this.mono fun e w' ⟨he,ao,cp,cells,hj⟩=>?_
  exact ⟨he,_,(hj.drop (.cons _ (.cons _ (List.Sublist.refl _)))).shut⟩
 have HN:∀ v,(us.set 10 v)[13]?=some (.slice none 0 0):=fun v=>by rw[List.getElem?_set_ne (by decide)];exact h13
 clear h hl hx hk ht hY hkk HPK;go_enter func113,ntmps113
 go_wp2_with (first|(refine Sr.w_box (ty:=112) H.out (by rfl) rfl rfl rfl ?_;intro wn C H2;replace H:=hid H2;clear H2)|(refine Sr.w_box (ty:=177) H.out (by rfl) rfl rfl rfl ?_;intro wn Q H2;replace H:=hid H2;clear H2)|(refine St.w_load1 (ty:=112) H.out.st (by rfl) rfl rfl 1 rfl rfl uPar_ ?_)|(go_at_call 107;(with_reducible (refine (HIS.out _ H.out.pat).mono ?_));rintro e wc ⟨rfl,hb⟩;replace H:=hid (H.out.below hb);clear hb))
 replace H:=hid (H.out.drew);refine zaa 5 (S:=fun W=>(W.cell? ⟨Q,0,none⟩=some (.pointer (some ⟨A,0,none⟩))∧W.cell? ⟨C,0,none⟩=some (.pointer (some ⟨B,0,none⟩)))) (by kernel_rfl) (by exact ⟨H.out.cell (i:=0) rfl rfl,H.out.cell (i:=1) rfl rfl⟩) (fun zJ=>?_);refine tKm 0 ?_;refine tKm 1 ?_;refine rK1 2 fun K hK=>?_
 go_simp;go_at_call 120
 (with_reducible (refine (zge s _ B d H.out.pat).mono ?_))
 rintro e wc ⟨ao,cp,rfl,hR,hK2,hP2⟩;have H2:=H.out.callR hK2 hP2 ((Row.nil _ _).cons hR);clear hR hK2 hP2;try dsimp only
 refine hK.out _ _ ?_ (fun zH=>?_)
 ·exact ⟨H2.cell (i:=0) rfl rfl,H2.cell (i:=1) rfl rfl⟩
 replace zJ:=zH;clear hK K;replace H:=hid H2;clear H2;refine tKp 3 ?_;refine tKm 4 ?_;refine rKl 5 fun K hK=>?_
 rw[if_pos (by rfl)];refine H.out.o_store1 rfl rfl rfl (ia+2) (hA us) (by show 10<us.length;rw[HL.out];decide) zef rfl (fun wl H2=>?_);refine hK.out _ _ ?_;clear hK K;replace H:=hid H2;clear H2;refine rKd ?_;have H2:=H.out;rw[show (List.set (_::_::Lq us) (ia+2) _)=_::_::(Lq us).set ia _ from rfl,hset]at H2;change Sr B d w0 _ (zaL s).2 ((Q,_)::(C,_)::Lq (us.set 10 (.slice ao (zaL s).1.length cp))) _ O at H2
 replace H:=hid H2;clear H2;go_wp2_with (first|(refine St.w_load1 (ty:=112) H.out.st (by rfl) rfl rfl 1 rfl rfl uPar_ ?_)|(go_at_call 94;(with_reducible (refine (zar (zaL s).2 [58] _ B d H.out.pat).mono ?_));rintro e wc ⟨rfl,hK,hP⟩;replace H:=hid (H.out.call hK hP);clear hK hP)|(go_at_call 143;(with_reducible (refine (HP.out _ H.out.pat).mono ?_));rintro e wc ⟨rfl,hb⟩;replace H:=hid (H.out.below hb);clear hb)|(go_at_call 110;(with_reducible (refine (HG.out _ _ _ _ _ (HN _) H.out).mono ?_));rintro e wc ⟨rfl,v9,H2⟩;replace H:=hid H2;clear H2))
 go_end0
 rw[HF.out];dsimp only;exact ⟨rfl,(.slice ao (zaL s).1.length cp),v9,H.out⟩
theorem zp4 {w0:World} {B d ia A:Nat} {Lq:List Value→List Bx} (hA:∀ us,(Lq us)[ia]?=some (A,us)) (hset:∀ us vs,(Lq us).set ia (A,vs)=Lq vs) {D:List (List Dat×List Value)} {O:List Ow} (us:List Value) (hl:us.length=16) (h10:us[10]?=some (.slice none 0 0)) (h13:us[13]?=some (.slice none 0 0)) (w:World) (s:Ps) (hx:isP s [58]=false) (hk:(peekP (wantP [58] (zaL s).2)).k≠1) (h:Sr B d w0 w s (Lq us) D O) :
 Calls Tryz.prog 113 #[.pointer (some ⟨B,0,none⟩),.pointer (some ⟨A,0,none⟩)] w fun e w'=>e=.returned (.tuple #[])∧∃ v10 v13,Sr B d w0 w' (za2 s).2 (Lq ((us.set 10 v10).set 13 v13)) (([.sl 3 ((za2 s).1.2.map aggD)],[v13])::([.sl 1 ((za2 s).1.1.map strD)],[v10])::D) O:=by
 have H:=hid h;have HL:=hid hl;have HIS:Hid (∀ W,PAt W B d s→Calls Tryz.prog 107 #[.pointer (some ⟨B,0,none⟩),.string ⟨#[58]⟩] W fun e w'=>e=.returned (.bool false)∧Below W.heap.size W w'):=fun W hW=>zbP s [58] false hx W B d hW
 obtain ⟨t,ht⟩:∃ t,peekP (wantP [58] (zaL s).2)=t:=⟨_,rfl⟩;obtain ⟨Y,hY⟩:∃ Y:ByteArray,(⟨t.t.toArray⟩:ByteArray)=Y:=⟨_,rfl⟩;have HPK:=hid (fun W hW=>zb0 (wantP [58] (zaL s).2) t Y ht hY W B d hW);obtain ⟨kk,hkk⟩:∃ q,t.k=q:=⟨_,rfl⟩;rw[hkk]at HPK;have HP:=HPK;have hkn:(kk != 1)=true:=by
  rw[ht,hkk]at hk;simpa using hk
 have hf0:=fun W=>zeb kk t.n t.p Y W
 have HF:Hid (za2 s=(((zaL s).1,[]),(wantP [58] (zaL s).2))):=by
  show za2 s=_
  unfold za2;rw[show zav s=((zaL s).1,(zaL s).2) from by unfold zav;rw[if_neg (by rw[hx];decide)]];simp only;rw[show zaO (wantP [58] (zaL s).2)=([],(wantP [58] (zaL s).2)) from by unfold zaO;rw[if_neg hk]]
 skip
 have HN:∀ v,(us.set 10 v)[13]?=some (.slice none 0 0):=fun v=>by rw[List.getElem?_set_ne (by decide)];exact h13
 clear h hl hx hk ht hY hkk HPK;go_enter func113,ntmps113
 go_wp2_with (first|(refine Sr.w_box (ty:=112) H.out (by rfl) rfl rfl rfl ?_;intro wn C H2;replace H:=hid H2;clear H2)|(refine Sr.w_box (ty:=177) H.out (by rfl) rfl rfl rfl ?_;intro wn Q H2;replace H:=hid H2;clear H2)|(refine St.w_load1 (ty:=112) H.out.st (by rfl) rfl rfl 1 rfl rfl uPar_ ?_)|(go_at_call 107;(with_reducible (refine (HIS.out _ H.out.pat).mono ?_));rintro e wc ⟨rfl,hb⟩;replace H:=hid (H.out.below hb);clear hb))
 replace H:=hid (H.out.drew);refine zaa 5 (S:=fun W=>(W.cell? ⟨Q,0,none⟩=some (.pointer (some ⟨A,0,none⟩))∧W.cell? ⟨C,0,none⟩=some (.pointer (some ⟨B,0,none⟩)))) (by kernel_rfl) (by exact ⟨H.out.cell (i:=0) rfl rfl,H.out.cell (i:=1) rfl rfl⟩) (fun zJ=>?_);refine tKm 0 ?_;refine tKm 1 ?_;refine rK1 2 fun K hK=>?_
 go_simp;go_at_call 120
 (with_reducible (refine (zge s _ B d H.out.pat).mono ?_))
 rintro e wc ⟨ao,cp,rfl,hR,hK2,hP2⟩;have H2:=H.out.callR hK2 hP2 ((Row.nil _ _).cons hR);clear hR hK2 hP2;try dsimp only
 refine hK.out _ _ ?_ (fun zH=>?_)
 ·exact ⟨H2.cell (i:=0) rfl rfl,H2.cell (i:=1) rfl rfl⟩
 replace zJ:=zH;clear hK K;replace H:=hid H2;clear H2;refine tKp 3 ?_;refine tKm 4 ?_;refine rKl 5 fun K hK=>?_
 rw[if_pos (by rfl)];refine H.out.o_store1 rfl rfl rfl (ia+2) (hA us) (by show 10<us.length;rw[HL.out];decide) zef rfl (fun wl H2=>?_);refine hK.out _ _ ?_;clear hK K;replace H:=hid H2;clear H2;refine rKd ?_;have H2:=H.out;rw[show (List.set (_::_::Lq us) (ia+2) _)=_::_::(Lq us).set ia _ from rfl,hset]at H2;change Sr B d w0 _ (zaL s).2 ((Q,_)::(C,_)::Lq (us.set 10 (.slice ao (zaL s).1.length cp))) _ O at H2
 replace H:=hid H2;clear H2;go_wp2_with (first|(refine St.w_load1 (ty:=112) H.out.st (by rfl) rfl rfl 1 rfl rfl uPar_ ?_)|(go_at_call 94;(with_reducible (refine (zar (zaL s).2 [58] _ B d H.out.pat).mono ?_));rintro e wc ⟨rfl,hK,hP⟩;replace H:=hid (H.out.call hK hP);clear hK hP)|(go_at_call 143;(with_reducible (refine (HP.out _ H.out.pat).mono ?_));rintro e wc ⟨rfl,hb⟩;replace H:=hid (H.out.below hb);clear hb)|(go_at_call 110;(with_reducible (refine (HG.out _ _ _ _ _ (HN _) H.out).mono ?_));rintro e wc ⟨rfl,v9,H2⟩;replace H:=hid H2;clear H2))
 refine bodyPost_ret (results_none rfl _ _ _) rfl ?_;rw[HF.out];dsimp only;have H3:=(H.out.drop (.cons _ (.cons _ (List.Sublist.refl _)))).put (zeI 3);exact ⟨rfl,(.slice ao (zaL s).1.length cp),.slice none 0 0,by rw[zcR (HN _)];exact H3⟩
theorem znU {w0:World} {B d ia A:Nat} {Lq:List Value→List Bx} (hA:∀ us,(Lq us)[ia]?=some (A,us)) (hset:∀ us vs,(Lq us).set ia (A,vs)=Lq vs) {D:List (List Dat×List Value)} {O:List Ow} (us:List Value) (hl:us.length=16) (h10:us[10]?=some (.slice none 0 0)) (h13:us[13]?=some (.slice none 0 0)) (w:World) (s:Ps) (h:Sr B d w0 w s (Lq us) D O) :
 Calls Tryz.prog 113 #[.pointer (some ⟨B,0,none⟩),.pointer (some ⟨A,0,none⟩)] w fun e w'=>e=.returned (.tuple #[])∧∃ v10 v13,Sr B d w0 w' (za2 s).2 (Lq ((us.set 10 v10).set 13 v13)) (([.sl 3 ((za2 s).1.2.map aggD)],[v13])::([.sl 1 ((za2 s).1.1.map strD)],[v10])::D) O:=by
 cases hx:isP s [58] with
 | true =>
  by_cases hk:(peekP (wantP [58] s)).k=1
  ·exact zp1 hA hset us hl h10 h13 w s hx hk h
  ·exact zp2 hA hset us hl h10 h13 w s hx hk h
 | false =>
  by_cases hk:(peekP (wantP [58] (zaL s).2)).k=1
  ·exact zp3 hA hset us hl h10 h13 w s hx hk h
  ·exact zp4 hA hset us hl h10 h13 w s hx hk h
