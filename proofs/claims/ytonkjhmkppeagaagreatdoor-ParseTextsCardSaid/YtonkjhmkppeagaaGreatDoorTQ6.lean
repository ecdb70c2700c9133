/- Walks: what first, group and join put into a plan. -/
import Derived.Test.YtonkjhmkppeagaaGreatDoorTQd
set_option linter.unusedVariables false
set_option linter.unusedSimpArgs false
namespace Go.Proofs.YtonkjhmkppeagaaGreatDoor.Pz
open Go.RowKit Go Go.Sort Ba Lx
theorem set_same {us:List Value} {i:Nat} {v:Value} (h:us[i]?=some v):us.set i v=us:=by
 apply List.ext_getElem?
 intro j
 rw [List.getElem?_set]
 split
 ·rename_i e
  subst e
  have hl:=(List.getElem?_eq_some_iff.1 h).1
  rw [if_pos hl,h]
 ·rfl
theorem row_nil1 {W:World} {ok:Nat→Prop} (k:Nat):Row W ok [.sl k []] [.slice none 0 0]:=(Row.nil W ok).cons (Rep.nil W ok k)
set_option maxRecDepth 100000 in
set_option maxHeartbeats 1600000 in
theorem first_any {w0:World} {B d ia A:Nat} {Lq:List Value→List Bx} (hA:∀ us,(Lq us)[ia]?=some (A,us)) (hset:∀ us vs,(Lq us).set ia (A,vs)=Lq vs) {D:List (List Dat × List Value)} {O:List Ow} (us:List Value) (hl:us.length=16) (h14:us[14]?=some (.slice none 0 0)) (w:World) (s:Ps) (h:Sr B d w0 w s (Lq us) D O) :
 Calls Tryz.prog 114 #[.pointer (some ⟨B,0,none⟩),.pointer (some ⟨A,0,none⟩)] w fun e w'=>e=.returned (.tuple #[])∧∃ v,Sr B d w0 w' (firstP s).2 (Lq ((us.set 15 (.int .i64 (firstP s).1.1)).set 14 v)) (([.sl 2 ((firstP s).1.2.map ordD)],[v])::D) O:=by
 have H:=Lib.hid h
 have HL:=Lib.hid hl
 obtain ⟨us2,hus2⟩:∃ us2,us.set 15 (.int .i64 (tokenP 2 s).1.n)=us2:=⟨_,rfl⟩
 have HN:us2[14]?=some (.slice none 0 0):=by rw [← hus2,List.getElem?_set_ne (by decide)];exact h14
 obtain ⟨s2,hs2⟩:∃ s2,(tokenP 2 s).2=s2:=⟨_,rfl⟩
 have hf2:=fun W=>field_tok2 (tokenP 2 s).1.k (tokenP 2 s).1.n (tokenP 2 s).1.p ⟨(tokenP 2 s).1.t.toArray⟩ W
 have HF:Hid (firstP s=(((tokenP 2 s).1.n,(firstBy s2).1),(firstBy s2).2)):=by show firstP s=_;unfold firstP;rw [hs2]
 have HS2:=Lib.hid hs2
 have HU2:=Lib.hid hus2
 cases hx:isP s2 sBy with
 | true =>
  have HM:Hid (∀ W,PAt W B d s2→Calls Tryz.prog 88 #[.pointer (some ⟨B,0,none⟩),.string ⟨#[98,121]⟩] W (MaybeTo W B d true (advP s2))):=fun W hW=>maybe_yes _ _ hx W B d hW
  have HB:Hid (firstBy s2=listP orderItem [] (advP s2)):=by show firstBy s2=_;unfold firstBy;rw [if_pos hx]
  have HG:Hid (∀ (us2:List Value) (C Q:Nat) (W:World) (D:List (List Dat × List Value)),us2[14]?=some (.slice none 0 0)→Sr B d w0 W (advP s2) ((Q,[.pointer (some ⟨A,0,none⟩)])::(C,[.pointer (some ⟨B,0,none⟩)])::Lq us2) D O→Calls Tryz.prog 110 #[.pointer (some ⟨B,0,none⟩),.func (.func 146) #[] #[.pointer (some ⟨C,0,none⟩),.pointer (some ⟨Q,0,none⟩)]] W fun e w'=>e=.returned (.tuple #[])∧∃ v,Sr B d w0 w' (listP orderItem [] (advP s2)).2 (Lq (us2.set 14 v)) (([.sl 2 ((listP orderItem [] (advP s2)).1.map ordD)],[v])::D) O):=fun us2 C Q W D hnil hs=>by
   have hl2:14 < us2.length:=(List.getElem?_eq_some_iff.1 hnil).1
   have:=gather_any (Lf:=fun v=>(Q,[.pointer (some ⟨A,0,none⟩)])::(C,[.pointer (some ⟨B,0,none⟩)])::Lq (us2.set 14 v)) (T:=69) (k:=2) (rD:=ordD) 146 (enters_of Tryz.func146 (by kernel_rfl) rfl) _ orderItem goes_orderItem
    (fun W acc s hg=>first1_any (us:=fun v=>us2.set 14 v) (ia:=ia+2) (ic:=1) (iq:=0) (fun v=>hA _) (fun v=>List.getElem?_set_self hl2) (fun _=>rfl) (fun v v'=>by show _::_::(Lq _).set ia _=_;rw [hset,List.set_set]) (fun _=>rfl) W acc s hg) W (advP s2) (by rw [set_same hnil];exact hs)
   refine this.mono fun e w' ⟨he,ao,cp,cells,hj⟩=>?_
   exact ⟨he,_,(hj.drop (.cons _ (.cons _ (List.Sublist.refl _)))).shut⟩
  clear h hl h14 hus2 hs2 hx
  go_enter Tryz.func114,Tryz.ntmps114
  go_wp2_with (first|(refine Sr.w_box (ty:=112) H.out (by rfl) rfl rfl rfl ?_;intro wn C H2;replace H:=Lib.hid H2;clear H2)|(refine Sr.w_box (ty:=177) H.out (by rfl) rfl rfl rfl ?_;intro wn Q H2;replace H:=Lib.hid H2;clear H2))
  have H2:=H.out.drew
  clear H
  have H:=Lib.hid H2
  clear H2
  refine wp_region_M_drew 6 (S:=fun W=>(W.cell? ⟨Q,0,none⟩=some (.pointer (some ⟨A,0,none⟩))∧W.cell? ⟨C,0,none⟩=some (.pointer (some ⟨B,0,none⟩)))) (by kernel_rfl) (by exact ⟨H.out.cell (i:=0) rfl rfl,H.out.cell (i:=1) rfl rfl⟩) (fun hHeld=>?_)
  refine tkM 0 rfl (by kernel_rfl) hHeld (Or.inl ⟨by rfl,by intro w hSw;(try dsimp only at hSw);go_simp<;>with_reducible rfl⟩) ?_
  try simp only [Array.reduceGetElem,zs]
  refine tkM 1 rfl (by kernel_rfl) hHeld (Or.inl ⟨by rfl,by intro w hSw;(try dsimp only at hSw);go_simp<;>with_reducible rfl⟩) ?_
  try simp only [Array.reduceGetElem,zs]
  refine wpAnyM_ready (rs:=[2]) (by kernel_rfl) (by simp) ?_
  refine AllReadyM.cons rfl (fun K hK=>?_) AllReadyM.nil
  go_simp
  go_at_call 119
  (with_reducible (refine (token_any s 2 (by decide) _ B d H.out.pat).mono ?_))
  rintro e wc ⟨rfl,hK2,hP2⟩
  have H2:=H.out.call hK2 hP2
  clear hK2 hP2
  try dsimp only
  refine hK.out _ _ ?_ (fun hHeld2=>?_)
  ·exact ⟨H2.cell (i:=0) rfl rfl,H2.cell (i:=1) rfl rfl⟩
  clear hK K hHeld
  have hHeld:=hHeld2
  clear hHeld2
  clear H
  have H:=Lib.hid H2
  clear H2
  try simp only [Array.reduceGetElem,zs]
  refine tkM 3 rfl (by kernel_rfl) hHeld (Or.inl ⟨by rfl,by intro w hSw;(try dsimp only at hSw);go_simp<;>with_reducible rfl⟩) ?_
  try simp only [Array.reduceGetElem,zs]
  refine tkP 4 rfl (by kernel_rfl) hHeld (Or.inl ⟨by rfl,by intro w hSw;clear hSw;go_simp<;>with_reducible rfl⟩) ?_
  try simp only [Array.reduceGetElem,zs]
  refine tkM 5 rfl (by kernel_rfl) hHeld (Or.inl ⟨by rfl,by intro w hSw;(try dsimp only at hSw);go_simp<;>with_reducible rfl⟩) ?_
  try simp only [Array.reduceGetElem,zs]
  refine wpAnyM_ready (rs:=[6]) (by kernel_rfl) (by simp) ?_
  refine AllReadyM.last rfl (by kernel_rfl) (fun K hK=>?_) AllReadyM.nil
  rw [if_pos (by rfl)]
  refine H.out.o_store1 rfl rfl rfl (ia+2) (hA us) (by show 15 < us.length;rw [HL.out];decide) sInt_ rfl (fun wl H2=>?_)
  refine hK.out _ _ ?_
  clear hK K
  clear H
  have H:=Lib.hid H2
  clear H2
  try simp only [Array.reduceGetElem,zs]
  refine wpAnyM_done (by kernel_rfl) ?_ _
  have H2:=H.out
  rw [show (List.set (_::_::Lq us) (ia+2) _)=_::_::(Lq us).set ia _ from rfl,hset] at H2
  change Sr B d w0 _ (tokenP 2 s).2 ((Q,_)::(C,_)::Lq (us.set 15 (.int .i64 (tokenP 2 s).1.n))) D O at H2
  rw [HU2.out,HS2.out] at H2
  clear H
  have H:=Lib.hid H2
  clear H2
  go_wp2_with (first|(refine St.w_load1 (ty:=112) H.out.st (by rfl) rfl rfl 1 rfl rfl uPar_ ?_)|(go_at_call 88;(with_reducible (refine (HM.out _ H.out.pat).mono ?_));rintro e wc ⟨rfl,hK,hP⟩;have H2:=H.out.call hK hP;clear hK hP;replace H:=Lib.hid H2;clear H2)|(go_at_call 110;(with_reducible (refine (HG.out _ _ _ _ _ HN H.out).mono ?_));rintro e wc ⟨rfl,v9,H2⟩;replace H:=Lib.hid H2;clear H2))
  go_end0
  rw [HF.out,HB.out]
  dsimp only
  rw [HU2.out]
  exact ⟨rfl,v9,H.out⟩
 | false =>
  have HM:Hid (∀ W,PAt W B d s2→Calls Tryz.prog 88 #[.pointer (some ⟨B,0,none⟩),.string ⟨#[98,121]⟩] W (MaybeTo W B d false s2)):=fun W hW=>maybe_no _ _ hx W B d hW
  have HB:Hid (firstBy s2=([],s2)):=by show firstBy s2=_;unfold firstBy;rw [if_neg (by rw [hx];decide)]
  clear h hl h14 hus2 hs2 hx
  go_enter Tryz.func114,Tryz.ntmps114
  go_wp2_with (first|(refine Sr.w_box (ty:=112) H.out (by rfl) rfl rfl rfl ?_;intro wn C H2;replace H:=Lib.hid H2;clear H2)|(refine Sr.w_box (ty:=177) H.out (by rfl) rfl rfl rfl ?_;intro wn Q H2;replace H:=Lib.hid H2;clear H2))
  have H2:=H.out.drew
  clear H
  have H:=Lib.hid H2
  clear H2
  refine wp_region_M_drew 6 (S:=fun W=>(W.cell? ⟨Q,0,none⟩=some (.pointer (some ⟨A,0,none⟩))∧W.cell? ⟨C,0,none⟩=some (.pointer (some ⟨B,0,none⟩)))) (by kernel_rfl) (by exact ⟨H.out.cell (i:=0) rfl rfl,H.out.cell (i:=1) rfl rfl⟩) (fun hHeld=>?_)
  refine tkM 0 rfl (by kernel_rfl) hHeld (Or.inl ⟨by rfl,by intro w hSw;(try dsimp only at hSw);go_simp<;>with_reducible rfl⟩) ?_
  try simp only [Array.reduceGetElem,zs]
  refine tkM 1 rfl (by kernel_rfl) hHeld (Or.inl ⟨by rfl,by intro w hSw;(try dsimp only at hSw);go_simp<;>with_reducible rfl⟩) ?_
  try simp only [Array.reduceGetElem,zs]
  refine wpAnyM_ready (rs:=[2]) (by kernel_rfl) (by simp) ?_
  refine AllReadyM.cons rfl (fun K hK=>?_) AllReadyM.nil
  go_simp
  go_at_call 119
  (with_reducible (refine (token_any s 2 (by decide) _ B d H.out.pat).mono ?_))
  rintro e wc ⟨rfl,hK2,hP2⟩
  have H2:=H.out.call hK2 hP2
  clear hK2 hP2
  try dsimp only
  refine hK.out _ _ ?_ (fun hHeld2=>?_)
  ·exact ⟨H2.cell (i:=0) rfl rfl,H2.cell (i:=1) rfl rfl⟩
  clear hK K hHeld
  have hHeld:=hHeld2
  clear hHeld2
  clear H
  have H:=Lib.hid H2
  clear H2
  try simp only [Array.reduceGetElem,zs]
  refine tkM 3 rfl (by kernel_rfl) hHeld (Or.inl ⟨by rfl,by intro w hSw;(try dsimp only at hSw);go_simp<;>with_reducible rfl⟩) ?_
  try simp only [Array.reduceGetElem,zs]
  refine tkP 4 rfl (by kernel_rfl) hHeld (Or.inl ⟨by rfl,by intro w hSw;clear hSw;go_simp<;>with_reducible rfl⟩) ?_
  try simp only [Array.reduceGetElem,zs]
  refine tkM 5 rfl (by kernel_rfl) hHeld (Or.inl ⟨by rfl,by intro w hSw;(try dsimp only at hSw);go_simp<;>with_reducible rfl⟩) ?_
  try simp only [Array.reduceGetElem,zs]
  refine wpAnyM_ready (rs:=[6]) (by kernel_rfl) (by simp) ?_
  refine AllReadyM.last rfl (by kernel_rfl) (fun K hK=>?_) AllReadyM.nil
  rw [if_pos (by rfl)]
  refine H.out.o_store1 rfl rfl rfl (ia+2) (hA us) (by show 15 < us.length;rw [HL.out];decide) sInt_ rfl (fun wl H2=>?_)
  refine hK.out _ _ ?_
  clear hK K
  clear H
  have H:=Lib.hid H2
  clear H2
  try simp only [Array.reduceGetElem,zs]
  refine wpAnyM_done (by kernel_rfl) ?_ _
  have H2:=H.out
  rw [show (List.set (_::_::Lq us) (ia+2) _)=_::_::(Lq us).set ia _ from rfl,hset] at H2
  change Sr B d w0 _ (tokenP 2 s).2 ((Q,_)::(C,_)::Lq (us.set 15 (.int .i64 (tokenP 2 s).1.n))) D O at H2
  rw [HU2.out,HS2.out] at H2
  clear H
  have H:=Lib.hid H2
  clear H2
  go_wp2_with (first|(refine St.w_load1 (ty:=112) H.out.st (by rfl) rfl rfl 1 rfl rfl uPar_ ?_)|(go_at_call 88;(with_reducible (refine (HM.out _ H.out.pat).mono ?_));rintro e wc ⟨rfl,hK,hP⟩;have H2:=H.out.call hK hP;clear hK hP;replace H:=Lib.hid H2;clear H2)|(go_at_call 110;(with_reducible (refine (HG.out _ _ _ _ _ HN H.out).mono ?_));rintro e wc ⟨rfl,v9,H2⟩;replace H:=Lib.hid H2;clear H2))
  go_end0
  rw [HF.out,HB.out]
  dsimp only
  rw [HU2.out]
  have H3:=(H.out.drop (.cons _ (.cons _ (List.Sublist.refl _)))).put (row_nil1 2)
  exact ⟨rfl,.slice none 0 0,by rw [set_same HN];exact H3⟩
theorem field_tok0 (k n p:Int) (Y:ByteArray) (W:World):(Instr.field 169 (.agg #[.int .i64 k,.string Y,.int .i64 n,.int .i64 p]) 0).run Tryz.prog W=.ok (.int .i64 k) W:=by kernel_rfl
set_option maxRecDepth 100000 in
set_option maxHeartbeats 1600000 in
theorem group_tt {w0:World} {B d ia A:Nat} {Lq:List Value→List Bx} (hA:∀ us,(Lq us)[ia]?=some (A,us)) (hset:∀ us vs,(Lq us).set ia (A,vs)=Lq vs) {D:List (List Dat × List Value)} {O:List Ow} (us:List Value) (hl:us.length=16) (h10:us[10]?=some (.slice none 0 0)) (h13:us[13]?=some (.slice none 0 0)) (w:World) (s:Ps) (hx:isP s [58]=true) (hk:(peekP (wantP [58] s)).k=1) (h:Sr B d w0 w s (Lq us) D O) :
 Calls Tryz.prog 113 #[.pointer (some ⟨B,0,none⟩),.pointer (some ⟨A,0,none⟩)] w fun e w'=>e=.returned (.tuple #[])∧∃ v10 v13,Sr B d w0 w' (groupP s).2 (Lq ((us.set 10 v10).set 13 v13)) (([.sl 3 ((groupP s).1.2.map aggD)],[v13])::([.sl 1 ((groupP s).1.1.map strD)],[v10])::D) O:=by
 have H:=Lib.hid h
 have HL:=Lib.hid hl
 have HIS:Hid (∀ W,PAt W B d s→Calls Tryz.prog 107 #[.pointer (some ⟨B,0,none⟩),.string ⟨#[58]⟩] W fun e w'=>e=.returned (.bool true)∧Below W.heap.size W w'):=fun W hW=>is_any s [58] true hx W B d hW
 obtain ⟨t,ht⟩:∃ t,peekP (wantP [58] s)=t:=⟨_,rfl⟩
 obtain ⟨Y,hY⟩:∃ Y:ByteArray,(⟨t.t.toArray⟩:ByteArray)=Y:=⟨_,rfl⟩
 have HPK:=Lib.hid (fun W hW=>peek_to (wantP [58] s) t Y ht hY W B d hW)
 obtain ⟨kk,hkk⟩:∃ q,t.k=q:=⟨_,rfl⟩
 rw [hkk] at HPK
 have HP:=HPK
 have hkn:(kk != 1)=false:=by
  rw [ht,hkk] at hk
  rw [hk];rfl
 have hf0:=fun W=>field_tok0 kk t.n t.p Y W
 have HF:Hid (groupP s=(([],(listP aggItem [] (wantP [58] s)).1),(listP aggItem [] (wantP [58] s)).2)):=by
  show groupP s=_
  unfold groupP
  rw [show groupNames s=([],s) from by unfold groupNames;rw [if_pos hx]]
  simp only
  rw [show groupAggs (wantP [58] s)=listP aggItem [] (wantP [58] s) from by unfold groupAggs;rw [if_pos hk]]
 have HG:Hid (∀ (us2:List Value) (C Q:Nat) (W:World) (D:List (List Dat × List Value)),us2[13]?=some (.slice none 0 0)→Sr B d w0 W (wantP [58] s) ((Q,[.pointer (some ⟨A,0,none⟩)])::(C,[.pointer (some ⟨B,0,none⟩)])::Lq us2) D O→Calls Tryz.prog 110 #[.pointer (some ⟨B,0,none⟩),.func (.func 145) #[] #[.pointer (some ⟨C,0,none⟩),.pointer (some ⟨Q,0,none⟩)]] W fun e w'=>e=.returned (.tuple #[])∧∃ v,Sr B d w0 w' (listP aggItem [] (wantP [58] s)).2 (Lq (us2.set 13 v)) (([.sl 3 ((listP aggItem [] (wantP [58] s)).1.map aggD)],[v])::D) O):=fun us2 C Q W D hnil hs=>by
  have hl2:13 < us2.length:=(List.getElem?_eq_some_iff.1 hnil).1
  have:=gather_any (Lf:=fun v=>(Q,[.pointer (some ⟨A,0,none⟩)])::(C,[.pointer (some ⟨B,0,none⟩)])::Lq (us2.set 13 v)) (T:=67) (k:=3) (rD:=aggD) 145 (enters_of Tryz.func145 (by kernel_rfl) rfl) _ aggItem goes_aggItem
   (fun W acc s hg=>group1_any (us:=fun v=>us2.set 13 v) (ia:=ia+2) (ic:=1) (iq:=0) (fun v=>hA _) (fun v=>List.getElem?_set_self hl2) (fun _=>rfl) (fun v v'=>by show _::_::(Lq _).set ia _=_;rw [hset,List.set_set]) (fun _=>rfl) W acc s hg) W (wantP [58] s) (by rw [set_same hnil];exact hs)
  refine this.mono fun e w' ⟨he,ao,cp,cells,hj⟩=>?_
  exact ⟨he,_,(hj.drop (.cons _ (.cons _ (List.Sublist.refl _)))).shut⟩
 have HN:us[13]?=some (.slice none 0 0):=h13
 clear h hl hx hk ht hY hkk HPK
 have H2:=H.out.put (row_nil1 1)
 clear H
 have H:=Lib.hid H2
 clear H2
 go_enter Tryz.func113,Tryz.ntmps113
 go_wp2_with (first|(refine Sr.w_box (ty:=112) H.out (by rfl) rfl rfl rfl ?_;intro wn C H2;replace H:=Lib.hid H2;clear H2)|(refine Sr.w_box (ty:=177) H.out (by rfl) rfl rfl rfl ?_;intro wn Q H2;replace H:=Lib.hid H2;clear H2)|(go_at_call 107;(with_reducible (refine (HIS.out _ H.out.pat).mono ?_));rintro e wc ⟨rfl,hb⟩;have H2:=H.out.below hb;clear hb;replace H:=Lib.hid H2;clear H2)|(refine St.w_load1 (ty:=112) H.out.st (by rfl) rfl rfl 1 rfl rfl uPar_ ?_)|(go_at_call 94;(with_reducible (refine (want_any s [58] _ B d H.out.pat).mono ?_));rintro e wc ⟨rfl,hK,hP⟩;have H2:=H.out.call hK hP;clear hK hP;replace H:=Lib.hid H2;clear H2)|(go_at_call 143;(with_reducible (refine (HP.out _ H.out.pat).mono ?_));rintro e wc ⟨rfl,hb⟩;have H2:=H.out.below hb;clear hb;replace H:=Lib.hid H2;clear H2)|(go_at_call 110;(with_reducible (refine (HG.out _ _ _ _ _ HN H.out).mono ?_));rintro e wc ⟨rfl,v9,H2⟩;replace H:=Lib.hid H2;clear H2))
 go_end0
 rw [HF.out]
 dsimp only
 exact ⟨rfl,(.slice none 0 0),v9,by rw [set_same h10];exact H.out⟩
set_option maxRecDepth 100000 in
set_option maxHeartbeats 1600000 in
theorem group_tf {w0:World} {B d ia A:Nat} {Lq:List Value→List Bx} (hA:∀ us,(Lq us)[ia]?=some (A,us)) (hset:∀ us vs,(Lq us).set ia (A,vs)=Lq vs) {D:List (List Dat × List Value)} {O:List Ow} (us:List Value) (hl:us.length=16) (h10:us[10]?=some (.slice none 0 0)) (h13:us[13]?=some (.slice none 0 0)) (w:World) (s:Ps) (hx:isP s [58]=true) (hk:(peekP (wantP [58] s)).k≠1) (h:Sr B d w0 w s (Lq us) D O) :
 Calls Tryz.prog 113 #[.pointer (some ⟨B,0,none⟩),.pointer (some ⟨A,0,none⟩)] w fun e w'=>e=.returned (.tuple #[])∧∃ v10 v13,Sr B d w0 w' (groupP s).2 (Lq ((us.set 10 v10).set 13 v13)) (([.sl 3 ((groupP s).1.2.map aggD)],[v13])::([.sl 1 ((groupP s).1.1.map strD)],[v10])::D) O:=by
 have H:=Lib.hid h
 have HL:=Lib.hid hl
 have HIS:Hid (∀ W,PAt W B d s→Calls Tryz.prog 107 #[.pointer (some ⟨B,0,none⟩),.string ⟨#[58]⟩] W fun e w'=>e=.returned (.bool true)∧Below W.heap.size W w'):=fun W hW=>is_any s [58] true hx W B d hW
 obtain ⟨t,ht⟩:∃ t,peekP (wantP [58] s)=t:=⟨_,rfl⟩
 obtain ⟨Y,hY⟩:∃ Y:ByteArray,(⟨t.t.toArray⟩:ByteArray)=Y:=⟨_,rfl⟩
 have HPK:=Lib.hid (fun W hW=>peek_to (wantP [58] s) t Y ht hY W B d hW)
 obtain ⟨kk,hkk⟩:∃ q,t.k=q:=⟨_,rfl⟩
 rw [hkk] at HPK
 have HP:=HPK
 have hkn:(kk != 1)=true:=by
  rw [ht,hkk] at hk
  simpa using hk
 have hf0:=fun W=>field_tok0 kk t.n t.p Y W
 have HF:Hid (groupP s=(([],[]),(wantP [58] s))):=by
  show groupP s=_
  unfold groupP
  rw [show groupNames s=([],s) from by unfold groupNames;rw [if_pos hx]]
  simp only
  rw [show groupAggs (wantP [58] s)=([],(wantP [58] s)) from by unfold groupAggs;rw [if_neg hk]]
 skip
 have HN:us[13]?=some (.slice none 0 0):=h13
 clear h hl hx hk ht hY hkk HPK
 have H2:=H.out.put (row_nil1 1)
 clear H
 have H:=Lib.hid H2
 clear H2
 go_enter Tryz.func113,Tryz.ntmps113
 go_wp2_with (first|(refine Sr.w_box (ty:=112) H.out (by rfl) rfl rfl rfl ?_;intro wn C H2;replace H:=Lib.hid H2;clear H2)|(refine Sr.w_box (ty:=177) H.out (by rfl) rfl rfl rfl ?_;intro wn Q H2;replace H:=Lib.hid H2;clear H2)|(go_at_call 107;(with_reducible (refine (HIS.out _ H.out.pat).mono ?_));rintro e wc ⟨rfl,hb⟩;have H2:=H.out.below hb;clear hb;replace H:=Lib.hid H2;clear H2)|(refine St.w_load1 (ty:=112) H.out.st (by rfl) rfl rfl 1 rfl rfl uPar_ ?_)|(go_at_call 94;(with_reducible (refine (want_any s [58] _ B d H.out.pat).mono ?_));rintro e wc ⟨rfl,hK,hP⟩;have H2:=H.out.call hK hP;clear hK hP;replace H:=Lib.hid H2;clear H2)|(go_at_call 143;(with_reducible (refine (HP.out _ H.out.pat).mono ?_));rintro e wc ⟨rfl,hb⟩;have H2:=H.out.below hb;clear hb;replace H:=Lib.hid H2;clear H2)|(go_at_call 110;(with_reducible (refine (HG.out _ _ _ _ _ HN H.out).mono ?_));rintro e wc ⟨rfl,v9,H2⟩;replace H:=Lib.hid H2;clear H2))
 refine bodyPost_ret (results_none rfl _ _ _) rfl ?_
 rw [HF.out]
 dsimp only
 have H3:=(H.out.drop (.cons _ (.cons _ (List.Sublist.refl _)))).put (row_nil1 3)
 exact ⟨rfl,(.slice none 0 0),.slice none 0 0,by rw [set_same h10,set_same h13];exact H3⟩
set_option maxRecDepth 100000 in
set_option maxHeartbeats 1600000 in
theorem group_ft {w0:World} {B d ia A:Nat} {Lq:List Value→List Bx} (hA:∀ us,(Lq us)[ia]?=some (A,us)) (hset:∀ us vs,(Lq us).set ia (A,vs)=Lq vs) {D:List (List Dat × List Value)} {O:List Ow} (us:List Value) (hl:us.length=16) (h10:us[10]?=some (.slice none 0 0)) (h13:us[13]?=some (.slice none 0 0)) (w:World) (s:Ps) (hx:isP s [58]=false) (hk:(peekP (wantP [58] (namesP s).2)).k=1) (h:Sr B d w0 w s (Lq us) D O) :
 Calls Tryz.prog 113 #[.pointer (some ⟨B,0,none⟩),.pointer (some ⟨A,0,none⟩)] w fun e w'=>e=.returned (.tuple #[])∧∃ v10 v13,Sr B d w0 w' (groupP s).2 (Lq ((us.set 10 v10).set 13 v13)) (([.sl 3 ((groupP s).1.2.map aggD)],[v13])::([.sl 1 ((groupP s).1.1.map strD)],[v10])::D) O:=by
 have H:=Lib.hid h
 have HL:=Lib.hid hl
 have HIS:Hid (∀ W,PAt W B d s→Calls Tryz.prog 107 #[.pointer (some ⟨B,0,none⟩),.string ⟨#[58]⟩] W fun e w'=>e=.returned (.bool false)∧Below W.heap.size W w'):=fun W hW=>is_any s [58] false hx W B d hW
 obtain ⟨t,ht⟩:∃ t,peekP (wantP [58] (namesP s).2)=t:=⟨_,rfl⟩
 obtain ⟨Y,hY⟩:∃ Y:ByteArray,(⟨t.t.toArray⟩:ByteArray)=Y:=⟨_,rfl⟩
 have HPK:=Lib.hid (fun W hW=>peek_to (wantP [58] (namesP s).2) t Y ht hY W B d hW)
 obtain ⟨kk,hkk⟩:∃ q,t.k=q:=⟨_,rfl⟩
 rw [hkk] at HPK
 have HP:=HPK
 have hkn:(kk != 1)=false:=by
  rw [ht,hkk] at hk
  rw [hk];rfl
 have hf0:=fun W=>field_tok0 kk t.n t.p Y W
 have HF:Hid (groupP s=(((namesP s).1,(listP aggItem [] (wantP [58] (namesP s).2)).1),(listP aggItem [] (wantP [58] (namesP s).2)).2)):=by
  show groupP s=_
  unfold groupP
  rw [show groupNames s=((namesP s).1,(namesP s).2) from by unfold groupNames;rw [if_neg (by rw [hx];decide)]]
  simp only
  rw [show groupAggs (wantP [58] (namesP s).2)=listP aggItem [] (wantP [58] (namesP s).2) from by unfold groupAggs;rw [if_pos hk]]
 have HG:Hid (∀ (us2:List Value) (C Q:Nat) (W:World) (D:List (List Dat × List Value)),us2[13]?=some (.slice none 0 0)→Sr B d w0 W (wantP [58] (namesP s).2) ((Q,[.pointer (some ⟨A,0,none⟩)])::(C,[.pointer (some ⟨B,0,none⟩)])::Lq us2) D O→Calls Tryz.prog 110 #[.pointer (some ⟨B,0,none⟩),.func (.func 145) #[] #[.pointer (some ⟨C,0,none⟩),.pointer (some ⟨Q,0,none⟩)]] W fun e w'=>e=.returned (.tuple #[])∧∃ v,Sr B d w0 w' (listP aggItem [] (wantP [58] (namesP s).2)).2 (Lq (us2.set 13 v)) (([.sl 3 ((listP aggItem [] (wantP [58] (namesP s).2)).1.map aggD)],[v])::D) O):=fun us2 C Q W D hnil hs=>by
  have hl2:13 < us2.length:=(List.getElem?_eq_some_iff.1 hnil).1
  have:=gather_any (Lf:=fun v=>(Q,[.pointer (some ⟨A,0,none⟩)])::(C,[.pointer (some ⟨B,0,none⟩)])::Lq (us2.set 13 v)) (T:=67) (k:=3) (rD:=aggD) 145 (enters_of Tryz.func145 (by kernel_rfl) rfl) _ aggItem goes_aggItem
   (fun W acc s hg=>group1_any (us:=fun v=>us2.set 13 v) (ia:=ia+2) (ic:=1) (iq:=0) (fun v=>hA _) (fun v=>List.getElem?_set_self hl2) (fun _=>rfl) (fun v v'=>by show _::_::(Lq _).set ia _=_;rw [hset,List.set_set]) (fun _=>rfl) W acc s hg) W (wantP [58] (namesP s).2) (by rw [set_same hnil];exact hs)
  refine this.mono fun e w' ⟨he,ao,cp,cells,hj⟩=>?_
  exact ⟨he,_,(hj.drop (.cons _ (.cons _ (List.Sublist.refl _)))).shut⟩
 have HN:∀ v,(us.set 10 v)[13]?=some (.slice none 0 0):=fun v=>by rw [List.getElem?_set_ne (by decide)];exact h13
 clear h hl hx hk ht hY hkk HPK
 go_enter Tryz.func113,Tryz.ntmps113
 go_wp2_with (first|(refine Sr.w_box (ty:=112) H.out (by rfl) rfl rfl rfl ?_;intro wn C H2;replace H:=Lib.hid H2;clear H2)|(refine Sr.w_box (ty:=177) H.out (by rfl) rfl rfl rfl ?_;intro wn Q H2;replace H:=Lib.hid H2;clear H2)|(refine St.w_load1 (ty:=112) H.out.st (by rfl) rfl rfl 1 rfl rfl uPar_ ?_)|(go_at_call 107;(with_reducible (refine (HIS.out _ H.out.pat).mono ?_));rintro e wc ⟨rfl,hb⟩;have H2:=H.out.below hb;clear hb;replace H:=Lib.hid H2;clear H2))
 have H2:=H.out.drew
 clear H
 have H:=Lib.hid H2
 clear H2
 refine wp_region_M_drew 5 (S:=fun W=>(W.cell? ⟨Q,0,none⟩=some (.pointer (some ⟨A,0,none⟩))∧W.cell? ⟨C,0,none⟩=some (.pointer (some ⟨B,0,none⟩)))) (by kernel_rfl) (by exact ⟨H.out.cell (i:=0) rfl rfl,H.out.cell (i:=1) rfl rfl⟩) (fun hHeld=>?_)
 refine tkM 0 rfl (by kernel_rfl) hHeld (Or.inl ⟨by rfl,by intro w hSw;(try dsimp only at hSw);go_simp<;>with_reducible rfl⟩) ?_
 try simp only [Array.reduceGetElem,zs]
 refine tkM 1 rfl (by kernel_rfl) hHeld (Or.inl ⟨by rfl,by intro w hSw;(try dsimp only at hSw);go_simp<;>with_reducible rfl⟩) ?_
 try simp only [Array.reduceGetElem,zs]
 refine wpAnyM_ready (rs:=[2]) (by kernel_rfl) (by simp) ?_
 refine AllReadyM.cons rfl (fun K hK=>?_) AllReadyM.nil
 go_simp
 go_at_call 120
 (with_reducible (refine (names_any s _ B d H.out.pat).mono ?_))
 rintro e wc ⟨ao,cp,rfl,hR,hK2,hP2⟩
 have H2:=H.out.callR hK2 hP2 ((Row.nil _ _).cons hR)
 clear hR hK2 hP2
 try dsimp only
 refine hK.out _ _ ?_ (fun hHeld2=>?_)
 ·exact ⟨H2.cell (i:=0) rfl rfl,H2.cell (i:=1) rfl rfl⟩
 clear hK K hHeld
 have hHeld:=hHeld2
 clear hHeld2
 clear H
 have H:=Lib.hid H2
 clear H2
 try simp only [Array.reduceGetElem,zs]
 refine tkP 3 rfl (by kernel_rfl) hHeld (Or.inl ⟨by rfl,by intro w hSw;clear hSw;go_simp<;>with_reducible rfl⟩) ?_
 try simp only [Array.reduceGetElem,zs]
 refine tkM 4 rfl (by kernel_rfl) hHeld (Or.inl ⟨by rfl,by intro w hSw;(try dsimp only at hSw);go_simp<;>with_reducible rfl⟩) ?_
 try simp only [Array.reduceGetElem,zs]
 refine wpAnyM_ready (rs:=[5]) (by kernel_rfl) (by simp) ?_
 refine AllReadyM.last rfl (by kernel_rfl) (fun K hK=>?_) AllReadyM.nil
 rw [if_pos (by rfl)]
 refine H.out.o_store1 rfl rfl rfl (ia+2) (hA us) (by show 10 < us.length;rw [HL.out];decide) sSStr_ rfl (fun wl H2=>?_)
 refine hK.out _ _ ?_
 clear hK K
 clear H
 have H:=Lib.hid H2
 clear H2
 try simp only [Array.reduceGetElem,zs]
 refine wpAnyM_done (by kernel_rfl) ?_ _
 have H2:=H.out
 rw [show (List.set (_::_::Lq us) (ia+2) _)=_::_::(Lq us).set ia _ from rfl,hset] at H2
 change Sr B d w0 _ (namesP s).2 ((Q,_)::(C,_)::Lq (us.set 10 (.slice ao (namesP s).1.length cp))) _ O at H2
 clear H
 have H:=Lib.hid H2
 clear H2
 go_wp2_with (first|(refine St.w_load1 (ty:=112) H.out.st (by rfl) rfl rfl 1 rfl rfl uPar_ ?_)|(go_at_call 94;(with_reducible (refine (want_any (namesP s).2 [58] _ B d H.out.pat).mono ?_));rintro e wc ⟨rfl,hK,hP⟩;have H2:=H.out.call hK hP;clear hK hP;replace H:=Lib.hid H2;clear H2)|(go_at_call 143;(with_reducible (refine (HP.out _ H.out.pat).mono ?_));rintro e wc ⟨rfl,hb⟩;have H2:=H.out.below hb;clear hb;replace H:=Lib.hid H2;clear H2)|(go_at_call 110;(with_reducible (refine (HG.out _ _ _ _ _ (HN _) H.out).mono ?_));rintro e wc ⟨rfl,v9,H2⟩;replace H:=Lib.hid H2;clear H2))
 go_end0
 rw [HF.out]
 dsimp only
 exact ⟨rfl,(.slice ao (namesP s).1.length cp),v9,H.out⟩
set_option maxRecDepth 100000 in
set_option maxHeartbeats 1600000 in
theorem group_ff {w0:World} {B d ia A:Nat} {Lq:List Value→List Bx} (hA:∀ us,(Lq us)[ia]?=some (A,us)) (hset:∀ us vs,(Lq us).set ia (A,vs)=Lq vs) {D:List (List Dat × List Value)} {O:List Ow} (us:List Value) (hl:us.length=16) (h10:us[10]?=some (.slice none 0 0)) (h13:us[13]?=some (.slice none 0 0)) (w:World) (s:Ps) (hx:isP s [58]=false) (hk:(peekP (wantP [58] (namesP s).2)).k≠1) (h:Sr B d w0 w s (Lq us) D O) :
 Calls Tryz.prog 113 #[.pointer (some ⟨B,0,none⟩),.pointer (some ⟨A,0,none⟩)] w fun e w'=>e=.returned (.tuple #[])∧∃ v10 v13,Sr B d w0 w' (groupP s).2 (Lq ((us.set 10 v10).set 13 v13)) (([.sl 3 ((groupP s).1.2.map aggD)],[v13])::([.sl 1 ((groupP s).1.1.map strD)],[v10])::D) O:=by
 have H:=Lib.hid h
 have HL:=Lib.hid hl
 have HIS:Hid (∀ W,PAt W B d s→Calls Tryz.prog 107 #[.pointer (some ⟨B,0,none⟩),.string ⟨#[58]⟩] W fun e w'=>e=.returned (.bool false)∧Below W.heap.size W w'):=fun W hW=>is_any s [58] false hx W B d hW
 obtain ⟨t,ht⟩:∃ t,peekP (wantP [58] (namesP s).2)=t:=⟨_,rfl⟩
 obtain ⟨Y,hY⟩:∃ Y:ByteArray,(⟨t.t.toArray⟩:ByteArray)=Y:=⟨_,rfl⟩
 have HPK:=Lib.hid (fun W hW=>peek_to (wantP [58] (namesP s).2) t Y ht hY W B d hW)
 obtain ⟨kk,hkk⟩:∃ q,t.k=q:=⟨_,rfl⟩
 rw [hkk] at HPK
 have HP:=HPK
 have hkn:(kk != 1)=true:=by
  rw [ht,hkk] at hk
  simpa using hk
 have hf0:=fun W=>field_tok0 kk t.n t.p Y W
 have HF:Hid (groupP s=(((namesP s).1,[]),(wantP [58] (namesP s).2))):=by
  show groupP s=_
  unfold groupP
  rw [show groupNames s=((namesP s).1,(namesP s).2) from by unfold groupNames;rw [if_neg (by rw [hx];decide)]]
  simp only
  rw [show groupAggs (wantP [58] (namesP s).2)=([],(wantP [58] (namesP s).2)) from by unfold groupAggs;rw [if_neg hk]]
 skip
 have HN:∀ v,(us.set 10 v)[13]?=some (.slice none 0 0):=fun v=>by rw [List.getElem?_set_ne (by decide)];exact h13
 clear h hl hx hk ht hY hkk HPK
 go_enter Tryz.func113,Tryz.ntmps113
 go_wp2_with (first|(refine Sr.w_box (ty:=112) H.out (by rfl) rfl rfl rfl ?_;intro wn C H2;replace H:=Lib.hid H2;clear H2)|(refine Sr.w_box (ty:=177) H.out (by rfl) rfl rfl rfl ?_;intro wn Q H2;replace H:=Lib.hid H2;clear H2)|(refine St.w_load1 (ty:=112) H.out.st (by rfl) rfl rfl 1 rfl rfl uPar_ ?_)|(go_at_call 107;(with_reducible (refine (HIS.out _ H.out.pat).mono ?_));rintro e wc ⟨rfl,hb⟩;have H2:=H.out.below hb;clear hb;replace H:=Lib.hid H2;clear H2))
 have H2:=H.out.drew
 clear H
 have H:=Lib.hid H2
 clear H2
 refine wp_region_M_drew 5 (S:=fun W=>(W.cell? ⟨Q,0,none⟩=some (.pointer (some ⟨A,0,none⟩))∧W.cell? ⟨C,0,none⟩=some (.pointer (some ⟨B,0,none⟩)))) (by kernel_rfl) (by exact ⟨H.out.cell (i:=0) rfl rfl,H.out.cell (i:=1) rfl rfl⟩) (fun hHeld=>?_)
 refine tkM 0 rfl (by kernel_rfl) hHeld (Or.inl ⟨by rfl,by intro w hSw;(try dsimp only at hSw);go_simp<;>with_reducible rfl⟩) ?_
 try simp only [Array.reduceGetElem,zs]
 refine tkM 1 rfl (by kernel_rfl) hHeld (Or.inl ⟨by rfl,by intro w hSw;(try dsimp only at hSw);go_simp<;>with_reducible rfl⟩) ?_
 try simp only [Array.reduceGetElem,zs]
 refine wpAnyM_ready (rs:=[2]) (by kernel_rfl) (by simp) ?_
 refine AllReadyM.cons rfl (fun K hK=>?_) AllReadyM.nil
 go_simp
 go_at_call 120
 (with_reducible (refine (names_any s _ B d H.out.pat).mono ?_))
 rintro e wc ⟨ao,cp,rfl,hR,hK2,hP2⟩
 have H2:=H.out.callR hK2 hP2 ((Row.nil _ _).cons hR)
 clear hR hK2 hP2
 try dsimp only
 refine hK.out _ _ ?_ (fun hHeld2=>?_)
 ·exact ⟨H2.cell (i:=0) rfl rfl,H2.cell (i:=1) rfl rfl⟩
 clear hK K hHeld
 have hHeld:=hHeld2
 clear hHeld2
 clear H
 have H:=Lib.hid H2
 clear H2
 try simp only [Array.reduceGetElem,zs]
 refine tkP 3 rfl (by kernel_rfl) hHeld (Or.inl ⟨by rfl,by intro w hSw;clear hSw;go_simp<;>with_reducible rfl⟩) ?_
 try simp only [Array.reduceGetElem,zs]
 refine tkM 4 rfl (by kernel_rfl) hHeld (Or.inl ⟨by rfl,by intro w hSw;(try dsimp only at hSw);go_simp<;>with_reducible rfl⟩) ?_
 try simp only [Array.reduceGetElem,zs]
 refine wpAnyM_ready (rs:=[5]) (by kernel_rfl) (by simp) ?_
 refine AllReadyM.last rfl (by kernel_rfl) (fun K hK=>?_) AllReadyM.nil
 rw [if_pos (by rfl)]
 refine H.out.o_store1 rfl rfl rfl (ia+2) (hA us) (by show 10 < us.length;rw [HL.out];decide) sSStr_ rfl (fun wl H2=>?_)
 refine hK.out _ _ ?_
 clear hK K
 clear H
 have H:=Lib.hid H2
 clear H2
 try simp only [Array.reduceGetElem,zs]
 refine wpAnyM_done (by kernel_rfl) ?_ _
 have H2:=H.out
 rw [show (List.set (_::_::Lq us) (ia+2) _)=_::_::(Lq us).set ia _ from rfl,hset] at H2
 change Sr B d w0 _ (namesP s).2 ((Q,_)::(C,_)::Lq (us.set 10 (.slice ao (namesP s).1.length cp))) _ O at H2
 clear H
 have H:=Lib.hid H2
 clear H2
 go_wp2_with (first|(refine St.w_load1 (ty:=112) H.out.st (by rfl) rfl rfl 1 rfl rfl uPar_ ?_)|(go_at_call 94;(with_reducible (refine (want_any (namesP s).2 [58] _ B d H.out.pat).mono ?_));rintro e wc ⟨rfl,hK,hP⟩;have H2:=H.out.call hK hP;clear hK hP;replace H:=Lib.hid H2;clear H2)|(go_at_call 143;(with_reducible (refine (HP.out _ H.out.pat).mono ?_));rintro e wc ⟨rfl,hb⟩;have H2:=H.out.below hb;clear hb;replace H:=Lib.hid H2;clear H2)|(go_at_call 110;(with_reducible (refine (HG.out _ _ _ _ _ (HN _) H.out).mono ?_));rintro e wc ⟨rfl,v9,H2⟩;replace H:=Lib.hid H2;clear H2))
 refine bodyPost_ret (results_none rfl _ _ _) rfl ?_
 rw [HF.out]
 dsimp only
 have H3:=(H.out.drop (.cons _ (.cons _ (List.Sublist.refl _)))).put (row_nil1 3)
 exact ⟨rfl,(.slice ao (namesP s).1.length cp),.slice none 0 0,by rw [set_same (HN _)];exact H3⟩
theorem group_any {w0:World} {B d ia A:Nat} {Lq:List Value→List Bx} (hA:∀ us,(Lq us)[ia]?=some (A,us)) (hset:∀ us vs,(Lq us).set ia (A,vs)=Lq vs) {D:List (List Dat × List Value)} {O:List Ow} (us:List Value) (hl:us.length=16) (h10:us[10]?=some (.slice none 0 0)) (h13:us[13]?=some (.slice none 0 0)) (w:World) (s:Ps) (h:Sr B d w0 w s (Lq us) D O) :
 Calls Tryz.prog 113 #[.pointer (some ⟨B,0,none⟩),.pointer (some ⟨A,0,none⟩)] w fun e w'=>e=.returned (.tuple #[])∧∃ v10 v13,Sr B d w0 w' (groupP s).2 (Lq ((us.set 10 v10).set 13 v13)) (([.sl 3 ((groupP s).1.2.map aggD)],[v13])::([.sl 1 ((groupP s).1.1.map strD)],[v10])::D) O:=by
 cases hx:isP s [58] with
 | true =>
  by_cases hk:(peekP (wantP [58] s)).k=1
  ·exact group_tt hA hset us hl h10 h13 w s hx hk h
  ·exact group_tf hA hset us hl h10 h13 w s hx hk h
 | false =>
  by_cases hk:(peekP (wantP [58] (namesP s).2)).k=1
  ·exact group_ft hA hset us hl h10 h13 w s hx hk h
  ·exact group_ff hA hset us hl h10 h13 w s hx hk h
end Go.Proofs.YtonkjhmkppeagaaGreatDoor.Pz
