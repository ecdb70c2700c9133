/- Walks: the aggs of a group. -/
import Derived.Test.YtonkjhmkppeagaaGreatDoorTQa
set_option linter.unusedVariables false
set_option linter.unusedSimpArgs false
namespace Go.Proofs.YtonkjhmkppeagaaGreatDoor.Pz
open Go.RowKit Go Go.Sort Ba Lx
set_option maxRecDepth 100000 in
set_option maxHeartbeats 1600000 in
theorem group1_0t {w0:World} {B A C Q ia ic iq d:Nat} {us:Value→List Value} {Lf:Value→List Bx} {D:List (List Dat × List Value)} {O:List Ow} (hA:∀ v,(Lf v)[ia]?=some (A,us v)) (hus:∀ v,(us v)[13]?=some v) (hC:∀ v,(Lf v)[ic]?=some (C,[.pointer (some ⟨B,0,none⟩)])) (hset:∀ v v',(Lf v).set ia (A,(us v).set 13 v')=Lf v') (hQ:∀ v,(Lf v)[iq]?=some (Q,[.pointer (some ⟨A,0,none⟩)])) (w:World) (acc:List _) (s s1:Ps) (h1:oneP aggWords s=(0,s1)) (hb:isP (wantP [40] s1) [41]=true) (h:Gt 0 B d w0 Lf D O 67 3 aggD w acc s) :
 Calls Tryz.prog 145 #[.pointer (some ⟨C,0,none⟩),.pointer (some ⟨Q,0,none⟩)] w fun e w'=>e=.returned (.tuple #[])∧Gt 1 B d w0 Lf D O 67 3 aggD w' (aggItem acc s).1 (aggItem acc s).2:=by
 have HI:Hid (∀ acc,aggItem acc s=(acc++[([],[],(nameP (wantP [97,115] (wantP [41] (wantP [40] s1)))).1)],(nameP (wantP [97,115] (wantP [41] (wantP [40] s1)))).2)):=fun acc=>by
  unfold aggItem
  rw [h1]
  simp only
  rw [show aggCol (wantP [40] s1)=([],(wantP [40] s1)) from by unfold aggCol;rw [hb];rfl]
  rfl
 have HO:Hid (∀ W v,PAt W B d s→OpsAt W B v aggWords→Calls Tryz.prog 90 #[.pointer (some ⟨B,0,none⟩),v] W (OneTo W B d (0,s1))):=fun W v hP hO=>by
  have:=one_any aggWords s v W B d (by decide) hP hO
  rw [h1] at this
  exact this
 have HIS:Hid (∀ W,PAt W B d (wantP [40] s1)→Calls Tryz.prog 107 #[.pointer (some ⟨B,0,none⟩),.string ⟨#[41]⟩] W fun e w'=>e=.returned (.bool true)∧Below W.heap.size W w'):=fun W hW=>is_any (wantP [40] s1) [41] true hb W B d hW
 clear h1 hb
 obtain ⟨hacc,v,cells,hs⟩:=h
 have hil:=hs.pat.il
 have htl:=hs.pat.tl
 have HG:Hid (acc.length+1≤(aggItem acc s).2.i+1):=by
  have:=(goes_aggItem acc s).i
  show acc.length+1≤(aggItem acc s).2.i+1
  omega
 have hacc2:acc.length≤20000:=by omega
 have H:=Lib.hid hs
 have hl:13 < (us v).length:=(List.getElem?_eq_some_iff.1 (hus v)).1
 have HL:=Lib.hid hl
 clear hs hacc hl
 go_enter Tryz.func145,Tryz.ntmps145
 go_wp2_with (first|(first|(refine St.w_load1 (ty:=112) H.out.st (by rfl) rfl rfl (ic+0) (hC v) rfl uPar_ ?_)|(refine St.w_load1 (ty:=112) H.out.st (by rfl) rfl rfl (ic+1) (hC v) rfl uPar_ ?_)|(refine St.w_load1 (ty:=112) H.out.st (by rfl) rfl rfl (ic+2) (hC v) rfl uPar_ ?_)|(refine St.w_load1 (ty:=112) H.out.st (by rfl) rfl rfl (ic+3) (hC v) rfl uPar_ ?_))|(refine Sr.w_lit H.out (by rfl) rfl Tryz.underlying48 iStr2_ [.string ⟨#[99,111,117,110,116]⟩,.string ⟨#[115,117,109]⟩,.string ⟨#[109,105,110]⟩,.string ⟨#[109,97,120]⟩] rfl rfl rfl (by decide) (by decide) (by decide) (all_k rfl) rfl ?_;intro wl Cl H2;replace H:=Lib.hid H2;clear H2)|(refine Sr.w_alloc (ty:=67) H.out (by rfl) rfl zAg_ rfl ?_;intro wn Cn H2;replace H:=Lib.hid H2;clear H2)|(go_at_call 90;(with_reducible (refine (HO.out _ (.slice (some ⟨_,0,none⟩) 4 4) H.out.pat (ops_box H.out (i:=1) rfl aggWords rfl rfl (by decide))).mono ?_));rintro e wc ⟨rfl,hK,hP⟩;have H2:=H.out.call hK hP;clear hK hP;replace H:=Lib.hid H2;clear H2)|(first|(go_at_call 94;(with_reducible (refine (want_any s1 [40] _ B d H.out.pat).mono ?_));rintro e wc ⟨rfl,hK,hP⟩;have H2:=H.out.call hK hP;clear hK hP;replace H:=Lib.hid H2;clear H2)|(go_at_call 94;(with_reducible (refine (want_any (wantP [40] s1) [41] _ B d H.out.pat).mono ?_));rintro e wc ⟨rfl,hK,hP⟩;have H2:=H.out.call hK hP;clear hK hP;replace H:=Lib.hid H2;clear H2)|(go_at_call 94;(with_reducible (refine (want_any (wantP [41] (wantP [40] s1)) [97,115] _ B d H.out.pat).mono ?_));rintro e wc ⟨rfl,hK,hP⟩;have H2:=H.out.call hK hP;clear hK hP;replace H:=Lib.hid H2;clear H2))|(go_at_call 107;(with_reducible (refine (HIS.out _ H.out.pat).mono ?_));rintro e wc ⟨rfl,hb⟩;have H2:=H.out.below hb;clear hb;replace H:=Lib.hid H2;clear H2)|(go_at_call 109;(with_reducible (refine (name_any (wantP [97,115] (wantP [41] (wantP [40] s1))) _ B d H.out.pat).mono ?_));rintro e wc ⟨rfl,hK,hP⟩;have H2:=H.out.call hK hP;clear hK hP;replace H:=Lib.hid H2;clear H2)|(first|(refine Sr.w_store1 (ty:=9) H.out (by rfl) rfl rfl rfl 0 rfl (Nat.le_of_ble_eq_true rfl) sStr_ rfl ?_;intro wn H2;replace H:=Lib.hid H2;clear H2))|(refine St.w_load1 (ty:=9) H.out.st (by rfl) rfl rfl 1 rfl rfl uStr_ ?_))
 have H2:=H.out.drew
 clear H
 have H:=Lib.hid H2
 clear H2
 refine wp_region_M_drew 10 (S:=fun W=>(W.cell? ⟨Q,0,none⟩=some (.pointer (some ⟨A,0,none⟩))∧W.cell? ⟨A,13,none⟩=some v∧W.cell? ⟨Cn,0,none⟩=some (.string ⟨#[]⟩)∧W.cell? ⟨Cn,1,none⟩=some (.string ⟨#[]⟩)∧W.cell? ⟨Cn,2,none⟩=some (.string ⟨(nameP (wantP [97,115] (wantP [41] (wantP [40] s1)))).1.toArray⟩))) (by kernel_rfl) (by exact ⟨H.out.cell (i:=iq+2) (hQ _) rfl,H.out.cell (i:=ia+2) (hA _) (hus _),H.out.cell (i:=0) rfl rfl,H.out.cell (i:=0) rfl rfl,H.out.cell (i:=0) rfl rfl⟩) (fun hHeld=>?_)
 refine tkM 0 rfl (by kernel_rfl) hHeld (Or.inl ⟨by rfl,by intro w hSw;(try dsimp only at hSw);go_simp<;>with_reducible rfl⟩) ?_
 try simp only [Array.reduceGetElem,zs]
 refine tkM 1 rfl (by kernel_rfl) hHeld (Or.inl ⟨by rfl,by intro w hSw;(try dsimp only at hSw);go_simp<;>with_reducible rfl⟩) ?_
 try simp only [Array.reduceGetElem,zs]
 refine tkM 2 rfl (by kernel_rfl) hHeld (Or.inl ⟨by rfl,by intro w hSw;(try dsimp only at hSw);go_simp<;>with_reducible rfl⟩) ?_
 try simp only [Array.reduceGetElem,zs]
 refine tkM 3 rfl (by kernel_rfl) hHeld (Or.inl ⟨by rfl,by intro w hSw;(try dsimp only at hSw);go_simp<;>with_reducible rfl⟩) ?_
 try simp only [Array.reduceGetElem,zs]
 refine tkM 4 rfl (by kernel_rfl) hHeld (Or.inl ⟨by rfl,by intro w hSw;(try dsimp only at hSw);go_simp<;>with_reducible rfl⟩) ?_
 try simp only [Array.reduceGetElem,zs]
 refine tkM 5 rfl (by kernel_rfl) hHeld (Or.inl ⟨by rfl,by intro w hSw;(try dsimp only at hSw);go_simp<;>with_reducible rfl⟩) ?_
 try simp only [Array.reduceGetElem,zs]
 refine wpAnyM_ready (rs:=[6]) (by kernel_rfl) (by simp) ?_
 refine AllReadyM.cons rfl (fun K hK=>?_) AllReadyM.nil
 rw [if_pos (by rfl)]
 refine H.out.o_lit1 rfl Tryz.underlying54 iAg2_ rfl rfl (by decide) (by decide) rfl rfl (fun wl Cl H2=>?_)
 refine hK.out _ _ ?_ (fun hHeld2=>?_)
 ·exact ⟨H2.cell (i:=iq+3) (hQ _) rfl,H2.cell (i:=ia+3) (hA _) (hus _),H2.cell (i:=1) rfl rfl,H2.cell (i:=1) rfl rfl,H2.cell (i:=1) rfl rfl⟩
 clear hK K hHeld
 have hHeld:=hHeld2
 clear hHeld2
 clear H
 have H:=Lib.hid H2
 clear H2
 try simp only [Array.reduceGetElem,zs]
 refine wpAnyM_ready (rs:=[7]) (by kernel_rfl) (by simp) ?_
 refine AllReadyM.cons rfl (fun K hK=>?_) AllReadyM.nil
 rw [if_pos (by rfl)]
 refine H.out.o_append (r:=aggD (([],[],(nameP (wantP [97,115] (wantP [41] (wantP [40] s1)))).1))) rfl Tryz.underlying54 iAg_ rfl (by decide) (by decide) 0 rfl rfl rfl rfl rfl 0 rfl rfl (row_agg _) (by show (acc.map aggD).length+1≤1000000;rw [List.length_map];omega) (fun wl ao cap _ H2=>?_)
 refine hK.out _ _ ?_ (fun hHeld2=>?_)
 ·exact ⟨H2.cell (i:=iq+3) (hQ _) rfl,H2.cell (i:=ia+3) (hA _) (hus _),H2.cell (i:=1) rfl rfl,H2.cell (i:=1) rfl rfl,H2.cell (i:=1) rfl rfl⟩
 clear hK K hHeld
 have hHeld:=hHeld2
 clear hHeld2
 clear H
 have H:=Lib.hid H2
 clear H2
 try simp only [Array.reduceGetElem,zs]
 refine tkP 8 rfl (by kernel_rfl) hHeld (Or.inl ⟨by rfl,by intro w hSw;clear hSw;go_simp<;>with_reducible rfl⟩) ?_
 try simp only [Array.reduceGetElem,zs]
 refine tkM 9 rfl (by kernel_rfl) hHeld (Or.inl ⟨by rfl,by intro w hSw;(try dsimp only at hSw);go_simp<;>with_reducible rfl⟩) ?_
 try simp only [Array.reduceGetElem,zs]
 refine wpAnyM_ready (rs:=[10]) (by kernel_rfl) (by simp) ?_
 refine AllReadyM.last rfl (by kernel_rfl) (fun K hK=>?_) AllReadyM.nil
 rw [if_pos (by rfl)]
 refine H.out.o_store1 rfl rfl rfl (ia+3) (hA v) HL.out sSAg_ rfl (fun wl H2=>?_)
 refine hK.out _ _ ?_
 clear hK K
 clear H
 have H:=Lib.hid H2
 clear H2
 try simp only [Array.reduceGetElem,zs]
 refine wpAnyM_done (by kernel_rfl) ?_ _
 go_wp2_with fail
 go_end0
 have H3:=H.out.drop (L':=Lf (.slice ao ((acc.map aggD).length+1) cap)) (by
  have e:=hset v (.slice ao ((acc.map aggD).length+1) cap)
  rw [← e]
  exact .cons _ (.cons _ (.cons _ (List.Sublist.refl _))))
 have e1:(aggItem acc s).1.map aggD=acc.map aggD++[aggD (([],[],(nameP (wantP [97,115] (wantP [41] (wantP [40] s1)))).1))]:=by
  rw [HI.out acc]
  rw [List.map_append];rfl
 exact ⟨rfl,by rw [HI.out acc] at HG ⊢;rw [List.length_append];exact HG.out,.slice ao ((acc.map aggD).length+1) cap,_,by rw [e1,HI.out acc];exact H3⟩
set_option maxRecDepth 100000 in
set_option maxHeartbeats 1600000 in
theorem group1_0f {w0:World} {B A C Q ia ic iq d:Nat} {us:Value→List Value} {Lf:Value→List Bx} {D:List (List Dat × List Value)} {O:List Ow} (hA:∀ v,(Lf v)[ia]?=some (A,us v)) (hus:∀ v,(us v)[13]?=some v) (hC:∀ v,(Lf v)[ic]?=some (C,[.pointer (some ⟨B,0,none⟩)])) (hset:∀ v v',(Lf v).set ia (A,(us v).set 13 v')=Lf v') (hQ:∀ v,(Lf v)[iq]?=some (Q,[.pointer (some ⟨A,0,none⟩)])) (w:World) (acc:List _) (s s1:Ps) (h1:oneP aggWords s=(0,s1)) (hb:isP (wantP [40] s1) [41]=false) (h:Gt 0 B d w0 Lf D O 67 3 aggD w acc s) :
 Calls Tryz.prog 145 #[.pointer (some ⟨C,0,none⟩),.pointer (some ⟨Q,0,none⟩)] w fun e w'=>e=.returned (.tuple #[])∧Gt 1 B d w0 Lf D O 67 3 aggD w' (aggItem acc s).1 (aggItem acc s).2:=by
 have HI:Hid (∀ acc,aggItem acc s=(acc++[([],(nameP (wantP [40] s1)).1,(nameP (wantP [97,115] (wantP [41] (nameP (wantP [40] s1)).2))).1)],(nameP (wantP [97,115] (wantP [41] (nameP (wantP [40] s1)).2))).2)):=fun acc=>by
  unfold aggItem
  rw [h1]
  simp only
  rw [show aggCol (wantP [40] s1)=((nameP (wantP [40] s1)).1,(nameP (wantP [40] s1)).2) from by unfold aggCol;rw [hb];rfl]
  rfl
 have HO:Hid (∀ W v,PAt W B d s→OpsAt W B v aggWords→Calls Tryz.prog 90 #[.pointer (some ⟨B,0,none⟩),v] W (OneTo W B d (0,s1))):=fun W v hP hO=>by
  have:=one_any aggWords s v W B d (by decide) hP hO
  rw [h1] at this
  exact this
 have HIS:Hid (∀ W,PAt W B d (wantP [40] s1)→Calls Tryz.prog 107 #[.pointer (some ⟨B,0,none⟩),.string ⟨#[41]⟩] W fun e w'=>e=.returned (.bool false)∧Below W.heap.size W w'):=fun W hW=>is_any (wantP [40] s1) [41] false hb W B d hW
 clear h1 hb
 obtain ⟨hacc,v,cells,hs⟩:=h
 have hil:=hs.pat.il
 have htl:=hs.pat.tl
 have HG:Hid (acc.length+1≤(aggItem acc s).2.i+1):=by
  have:=(goes_aggItem acc s).i
  show acc.length+1≤(aggItem acc s).2.i+1
  omega
 have hacc2:acc.length≤20000:=by omega
 have H:=Lib.hid hs
 have hl:13 < (us v).length:=(List.getElem?_eq_some_iff.1 (hus v)).1
 have HL:=Lib.hid hl
 clear hs hacc hl
 go_enter Tryz.func145,Tryz.ntmps145
 go_wp2_with (first|(first|(refine St.w_load1 (ty:=112) H.out.st (by rfl) rfl rfl (ic+0) (hC v) rfl uPar_ ?_)|(refine St.w_load1 (ty:=112) H.out.st (by rfl) rfl rfl (ic+1) (hC v) rfl uPar_ ?_)|(refine St.w_load1 (ty:=112) H.out.st (by rfl) rfl rfl (ic+2) (hC v) rfl uPar_ ?_)|(refine St.w_load1 (ty:=112) H.out.st (by rfl) rfl rfl (ic+3) (hC v) rfl uPar_ ?_))|(refine Sr.w_lit H.out (by rfl) rfl Tryz.underlying48 iStr2_ [.string ⟨#[99,111,117,110,116]⟩,.string ⟨#[115,117,109]⟩,.string ⟨#[109,105,110]⟩,.string ⟨#[109,97,120]⟩] rfl rfl rfl (by decide) (by decide) (by decide) (all_k rfl) rfl ?_;intro wl Cl H2;replace H:=Lib.hid H2;clear H2)|(refine Sr.w_alloc (ty:=67) H.out (by rfl) rfl zAg_ rfl ?_;intro wn Cn H2;replace H:=Lib.hid H2;clear H2)|(go_at_call 90;(with_reducible (refine (HO.out _ (.slice (some ⟨_,0,none⟩) 4 4) H.out.pat (ops_box H.out (i:=1) rfl aggWords rfl rfl (by decide))).mono ?_));rintro e wc ⟨rfl,hK,hP⟩;have H2:=H.out.call hK hP;clear hK hP;replace H:=Lib.hid H2;clear H2)|(first|(go_at_call 94;(with_reducible (refine (want_any s1 [40] _ B d H.out.pat).mono ?_));rintro e wc ⟨rfl,hK,hP⟩;have H2:=H.out.call hK hP;clear hK hP;replace H:=Lib.hid H2;clear H2)|(go_at_call 94;(with_reducible (refine (want_any (nameP (wantP [40] s1)).2 [41] _ B d H.out.pat).mono ?_));rintro e wc ⟨rfl,hK,hP⟩;have H2:=H.out.call hK hP;clear hK hP;replace H:=Lib.hid H2;clear H2)|(go_at_call 94;(with_reducible (refine (want_any (wantP [41] (nameP (wantP [40] s1)).2) [97,115] _ B d H.out.pat).mono ?_));rintro e wc ⟨rfl,hK,hP⟩;have H2:=H.out.call hK hP;clear hK hP;replace H:=Lib.hid H2;clear H2))|(go_at_call 107;(with_reducible (refine (HIS.out _ H.out.pat).mono ?_));rintro e wc ⟨rfl,hb⟩;have H2:=H.out.below hb;clear hb;replace H:=Lib.hid H2;clear H2)|(first|(go_at_call 109;(with_reducible (refine (name_any (wantP [40] s1) _ B d H.out.pat).mono ?_));rintro e wc ⟨rfl,hK,hP⟩;have H2:=H.out.call hK hP;clear hK hP;replace H:=Lib.hid H2;clear H2)|(go_at_call 109;(with_reducible (refine (name_any (wantP [97,115] (wantP [41] (nameP (wantP [40] s1)).2)) _ B d H.out.pat).mono ?_));rintro e wc ⟨rfl,hK,hP⟩;have H2:=H.out.call hK hP;clear hK hP;replace H:=Lib.hid H2;clear H2))|(first|(refine Sr.w_store1 (ty:=9) H.out (by rfl) rfl rfl rfl 0 rfl (Nat.le_of_ble_eq_true rfl) sStr_ rfl ?_;intro wn H2;replace H:=Lib.hid H2;clear H2))|(refine St.w_load1 (ty:=9) H.out.st (by rfl) rfl rfl 1 rfl rfl uStr_ ?_))
 have H2:=H.out.drew
 clear H
 have H:=Lib.hid H2
 clear H2
 refine wp_region_M_drew 10 (S:=fun W=>(W.cell? ⟨Q,0,none⟩=some (.pointer (some ⟨A,0,none⟩))∧W.cell? ⟨A,13,none⟩=some v∧W.cell? ⟨Cn,0,none⟩=some (.string ⟨#[]⟩)∧W.cell? ⟨Cn,1,none⟩=some (.string ⟨((nameP (wantP [40] s1)).1:Str).toArray⟩)∧W.cell? ⟨Cn,2,none⟩=some (.string ⟨(nameP (wantP [97,115] (wantP [41] (nameP (wantP [40] s1)).2))).1.toArray⟩))) (by kernel_rfl) (by exact ⟨H.out.cell (i:=iq+2) (hQ _) rfl,H.out.cell (i:=ia+2) (hA _) (hus _),H.out.cell (i:=0) rfl rfl,H.out.cell (i:=0) rfl rfl,H.out.cell (i:=0) rfl rfl⟩) (fun hHeld=>?_)
 refine tkM 0 rfl (by kernel_rfl) hHeld (Or.inl ⟨by rfl,by intro w hSw;(try dsimp only at hSw);go_simp<;>with_reducible rfl⟩) ?_
 try simp only [Array.reduceGetElem,zs]
 refine tkM 1 rfl (by kernel_rfl) hHeld (Or.inl ⟨by rfl,by intro w hSw;(try dsimp only at hSw);go_simp<;>with_reducible rfl⟩) ?_
 try simp only [Array.reduceGetElem,zs]
 refine tkM 2 rfl (by kernel_rfl) hHeld (Or.inl ⟨by rfl,by intro w hSw;(try dsimp only at hSw);go_simp<;>with_reducible rfl⟩) ?_
 try simp only [Array.reduceGetElem,zs]
 refine tkM 3 rfl (by kernel_rfl) hHeld (Or.inl ⟨by rfl,by intro w hSw;(try dsimp only at hSw);go_simp<;>with_reducible rfl⟩) ?_
 try simp only [Array.reduceGetElem,zs]
 refine tkM 4 rfl (by kernel_rfl) hHeld (Or.inl ⟨by rfl,by intro w hSw;(try dsimp only at hSw);go_simp<;>with_reducible rfl⟩) ?_
 try simp only [Array.reduceGetElem,zs]
 refine tkM 5 rfl (by kernel_rfl) hHeld (Or.inl ⟨by rfl,by intro w hSw;(try dsimp only at hSw);go_simp<;>with_reducible rfl⟩) ?_
 try simp only [Array.reduceGetElem,zs]
 refine wpAnyM_ready (rs:=[6]) (by kernel_rfl) (by simp) ?_
 refine AllReadyM.cons rfl (fun K hK=>?_) AllReadyM.nil
 rw [if_pos (by rfl)]
 refine H.out.o_lit1 rfl Tryz.underlying54 iAg2_ rfl rfl (by decide) (by decide) rfl rfl (fun wl Cl H2=>?_)
 refine hK.out _ _ ?_ (fun hHeld2=>?_)
 ·exact ⟨H2.cell (i:=iq+3) (hQ _) rfl,H2.cell (i:=ia+3) (hA _) (hus _),H2.cell (i:=1) rfl rfl,H2.cell (i:=1) rfl rfl,H2.cell (i:=1) rfl rfl⟩
 clear hK K hHeld
 have hHeld:=hHeld2
 clear hHeld2
 clear H
 have H:=Lib.hid H2
 clear H2
 try simp only [Array.reduceGetElem,zs]
 refine wpAnyM_ready (rs:=[7]) (by kernel_rfl) (by simp) ?_
 refine AllReadyM.cons rfl (fun K hK=>?_) AllReadyM.nil
 rw [if_pos (by rfl)]
 refine H.out.o_append (r:=aggD (([],(nameP (wantP [40] s1)).1,(nameP (wantP [97,115] (wantP [41] (nameP (wantP [40] s1)).2))).1))) rfl Tryz.underlying54 iAg_ rfl (by decide) (by decide) 0 rfl rfl rfl rfl rfl 0 rfl rfl (row_agg _) (by show (acc.map aggD).length+1≤1000000;rw [List.length_map];omega) (fun wl ao cap _ H2=>?_)
 refine hK.out _ _ ?_ (fun hHeld2=>?_)
 ·exact ⟨H2.cell (i:=iq+3) (hQ _) rfl,H2.cell (i:=ia+3) (hA _) (hus _),H2.cell (i:=1) rfl rfl,H2.cell (i:=1) rfl rfl,H2.cell (i:=1) rfl rfl⟩
 clear hK K hHeld
 have hHeld:=hHeld2
 clear hHeld2
 clear H
 have H:=Lib.hid H2
 clear H2
 try simp only [Array.reduceGetElem,zs]
 refine tkP 8 rfl (by kernel_rfl) hHeld (Or.inl ⟨by rfl,by intro w hSw;clear hSw;go_simp<;>with_reducible rfl⟩) ?_
 try simp only [Array.reduceGetElem,zs]
 refine tkM 9 rfl (by kernel_rfl) hHeld (Or.inl ⟨by rfl,by intro w hSw;(try dsimp only at hSw);go_simp<;>with_reducible rfl⟩) ?_
 try simp only [Array.reduceGetElem,zs]
 refine wpAnyM_ready (rs:=[10]) (by kernel_rfl) (by simp) ?_
 refine AllReadyM.last rfl (by kernel_rfl) (fun K hK=>?_) AllReadyM.nil
 rw [if_pos (by rfl)]
 refine H.out.o_store1 rfl rfl rfl (ia+3) (hA v) HL.out sSAg_ rfl (fun wl H2=>?_)
 refine hK.out _ _ ?_
 clear hK K
 clear H
 have H:=Lib.hid H2
 clear H2
 try simp only [Array.reduceGetElem,zs]
 refine wpAnyM_done (by kernel_rfl) ?_ _
 go_wp2_with fail
 go_end0
 have H3:=H.out.drop (L':=Lf (.slice ao ((acc.map aggD).length+1) cap)) (by
  have e:=hset v (.slice ao ((acc.map aggD).length+1) cap)
  rw [← e]
  exact .cons _ (.cons _ (.cons _ (List.Sublist.refl _))))
 have e1:(aggItem acc s).1.map aggD=acc.map aggD++[aggD (([],(nameP (wantP [40] s1)).1,(nameP (wantP [97,115] (wantP [41] (nameP (wantP [40] s1)).2))).1))]:=by
  rw [HI.out acc]
  rw [List.map_append];rfl
 exact ⟨rfl,by rw [HI.out acc] at HG ⊢;rw [List.length_append];exact HG.out,.slice ao ((acc.map aggD).length+1) cap,_,by rw [e1,HI.out acc];exact H3⟩
set_option maxRecDepth 100000 in
set_option maxHeartbeats 1600000 in
theorem group1_1t {w0:World} {B A C Q ia ic iq d:Nat} {us:Value→List Value} {Lf:Value→List Bx} {D:List (List Dat × List Value)} {O:List Ow} (hA:∀ v,(Lf v)[ia]?=some (A,us v)) (hus:∀ v,(us v)[13]?=some v) (hC:∀ v,(Lf v)[ic]?=some (C,[.pointer (some ⟨B,0,none⟩)])) (hset:∀ v v',(Lf v).set ia (A,(us v).set 13 v')=Lf v') (hQ:∀ v,(Lf v)[iq]?=some (Q,[.pointer (some ⟨A,0,none⟩)])) (w:World) (acc:List _) (s s1:Ps) (h1:oneP aggWords s=(1,s1)) (hb:isP (wantP [40] s1) [41]=true) (h:Gt 0 B d w0 Lf D O 67 3 aggD w acc s) :
 Calls Tryz.prog 145 #[.pointer (some ⟨C,0,none⟩),.pointer (some ⟨Q,0,none⟩)] w fun e w'=>e=.returned (.tuple #[])∧Gt 1 B d w0 Lf D O 67 3 aggD w' (aggItem acc s).1 (aggItem acc s).2:=by
 have HI:Hid (∀ acc,aggItem acc s=(acc++[([99,111,117,110,116],[],(nameP (wantP [97,115] (wantP [41] (wantP [40] s1)))).1)],(nameP (wantP [97,115] (wantP [41] (wantP [40] s1)))).2)):=fun acc=>by
  unfold aggItem
  rw [h1]
  simp only
  rw [show aggCol (wantP [40] s1)=([],(wantP [40] s1)) from by unfold aggCol;rw [hb];rfl]
  rfl
 have HO:Hid (∀ W v,PAt W B d s→OpsAt W B v aggWords→Calls Tryz.prog 90 #[.pointer (some ⟨B,0,none⟩),v] W (OneTo W B d (1,s1))):=fun W v hP hO=>by
  have:=one_any aggWords s v W B d (by decide) hP hO
  rw [h1] at this
  exact this
 have HIS:Hid (∀ W,PAt W B d (wantP [40] s1)→Calls Tryz.prog 107 #[.pointer (some ⟨B,0,none⟩),.string ⟨#[41]⟩] W fun e w'=>e=.returned (.bool true)∧Below W.heap.size W w'):=fun W hW=>is_any (wantP [40] s1) [41] true hb W B d hW
 clear h1 hb
 obtain ⟨hacc,v,cells,hs⟩:=h
 have hil:=hs.pat.il
 have htl:=hs.pat.tl
 have HG:Hid (acc.length+1≤(aggItem acc s).2.i+1):=by
  have:=(goes_aggItem acc s).i
  show acc.length+1≤(aggItem acc s).2.i+1
  omega
 have hacc2:acc.length≤20000:=by omega
 have H:=Lib.hid hs
 have hl:13 < (us v).length:=(List.getElem?_eq_some_iff.1 (hus v)).1
 have HL:=Lib.hid hl
 clear hs hacc hl
 go_enter Tryz.func145,Tryz.ntmps145
 go_wp2_with (first|(first|(refine St.w_load1 (ty:=112) H.out.st (by rfl) rfl rfl (ic+0) (hC v) rfl uPar_ ?_)|(refine St.w_load1 (ty:=112) H.out.st (by rfl) rfl rfl (ic+1) (hC v) rfl uPar_ ?_)|(refine St.w_load1 (ty:=112) H.out.st (by rfl) rfl rfl (ic+2) (hC v) rfl uPar_ ?_)|(refine St.w_load1 (ty:=112) H.out.st (by rfl) rfl rfl (ic+3) (hC v) rfl uPar_ ?_))|(refine Sr.w_lit H.out (by rfl) rfl Tryz.underlying48 iStr2_ [.string ⟨#[99,111,117,110,116]⟩,.string ⟨#[115,117,109]⟩,.string ⟨#[109,105,110]⟩,.string ⟨#[109,97,120]⟩] rfl rfl rfl (by decide) (by decide) (by decide) (all_k rfl) rfl ?_;intro wl Cl H2;replace H:=Lib.hid H2;clear H2)|(refine Sr.w_alloc (ty:=67) H.out (by rfl) rfl zAg_ rfl ?_;intro wn Cn H2;replace H:=Lib.hid H2;clear H2)|(go_at_call 90;(with_reducible (refine (HO.out _ (.slice (some ⟨_,0,none⟩) 4 4) H.out.pat (ops_box H.out (i:=1) rfl aggWords rfl rfl (by decide))).mono ?_));rintro e wc ⟨rfl,hK,hP⟩;have H2:=H.out.call hK hP;clear hK hP;replace H:=Lib.hid H2;clear H2)|(first|(go_at_call 94;(with_reducible (refine (want_any s1 [40] _ B d H.out.pat).mono ?_));rintro e wc ⟨rfl,hK,hP⟩;have H2:=H.out.call hK hP;clear hK hP;replace H:=Lib.hid H2;clear H2)|(go_at_call 94;(with_reducible (refine (want_any (wantP [40] s1) [41] _ B d H.out.pat).mono ?_));rintro e wc ⟨rfl,hK,hP⟩;have H2:=H.out.call hK hP;clear hK hP;replace H:=Lib.hid H2;clear H2)|(go_at_call 94;(with_reducible (refine (want_any (wantP [41] (wantP [40] s1)) [97,115] _ B d H.out.pat).mono ?_));rintro e wc ⟨rfl,hK,hP⟩;have H2:=H.out.call hK hP;clear hK hP;replace H:=Lib.hid H2;clear H2))|(go_at_call 107;(with_reducible (refine (HIS.out _ H.out.pat).mono ?_));rintro e wc ⟨rfl,hb⟩;have H2:=H.out.below hb;clear hb;replace H:=Lib.hid H2;clear H2)|(go_at_call 109;(with_reducible (refine (name_any (wantP [97,115] (wantP [41] (wantP [40] s1))) _ B d H.out.pat).mono ?_));rintro e wc ⟨rfl,hK,hP⟩;have H2:=H.out.call hK hP;clear hK hP;replace H:=Lib.hid H2;clear H2)|(first|(refine Sr.w_store1 (ty:=9) H.out (by rfl) rfl rfl rfl 0 rfl (Nat.le_of_ble_eq_true rfl) sStr_ rfl ?_;intro wn H2;replace H:=Lib.hid H2;clear H2))|(refine St.w_load1 (ty:=9) H.out.st (by rfl) rfl rfl 1 rfl rfl uStr_ ?_))
 have H2:=H.out.drew
 clear H
 have H:=Lib.hid H2
 clear H2
 refine wp_region_M_drew 10 (S:=fun W=>(W.cell? ⟨Q,0,none⟩=some (.pointer (some ⟨A,0,none⟩))∧W.cell? ⟨A,13,none⟩=some v∧W.cell? ⟨Cn,0,none⟩=some (.string ⟨#[99,111,117,110,116]⟩)∧W.cell? ⟨Cn,1,none⟩=some (.string ⟨#[]⟩)∧W.cell? ⟨Cn,2,none⟩=some (.string ⟨(nameP (wantP [97,115] (wantP [41] (wantP [40] s1)))).1.toArray⟩))) (by kernel_rfl) (by exact ⟨H.out.cell (i:=iq+2) (hQ _) rfl,H.out.cell (i:=ia+2) (hA _) (hus _),H.out.cell (i:=0) rfl rfl,H.out.cell (i:=0) rfl rfl,H.out.cell (i:=0) rfl rfl⟩) (fun hHeld=>?_)
 refine tkM 0 rfl (by kernel_rfl) hHeld (Or.inl ⟨by rfl,by intro w hSw;(try dsimp only at hSw);go_simp<;>with_reducible rfl⟩) ?_
 try simp only [Array.reduceGetElem,zs]
 refine tkM 1 rfl (by kernel_rfl) hHeld (Or.inl ⟨by rfl,by intro w hSw;(try dsimp only at hSw);go_simp<;>with_reducible rfl⟩) ?_
 try simp only [Array.reduceGetElem,zs]
 refine tkM 2 rfl (by kernel_rfl) hHeld (Or.inl ⟨by rfl,by intro w hSw;(try dsimp only at hSw);go_simp<;>with_reducible rfl⟩) ?_
 try simp only [Array.reduceGetElem,zs]
 refine tkM 3 rfl (by kernel_rfl) hHeld (Or.inl ⟨by rfl,by intro w hSw;(try dsimp only at hSw);go_simp<;>with_reducible rfl⟩) ?_
 try simp only [Array.reduceGetElem,zs]
 refine tkM 4 rfl (by kernel_rfl) hHeld (Or.inl ⟨by rfl,by intro w hSw;(try dsimp only at hSw);go_simp<;>with_reducible rfl⟩) ?_
 try simp only [Array.reduceGetElem,zs]
 refine tkM 5 rfl (by kernel_rfl) hHeld (Or.inl ⟨by rfl,by intro w hSw;(try dsimp only at hSw);go_simp<;>with_reducible rfl⟩) ?_
 try simp only [Array.reduceGetElem,zs]
 refine wpAnyM_ready (rs:=[6]) (by kernel_rfl) (by simp) ?_
 refine AllReadyM.cons rfl (fun K hK=>?_) AllReadyM.nil
 rw [if_pos (by rfl)]
 refine H.out.o_lit1 rfl Tryz.underlying54 iAg2_ rfl rfl (by decide) (by decide) rfl rfl (fun wl Cl H2=>?_)
 refine hK.out _ _ ?_ (fun hHeld2=>?_)
 ·exact ⟨H2.cell (i:=iq+3) (hQ _) rfl,H2.cell (i:=ia+3) (hA _) (hus _),H2.cell (i:=1) rfl rfl,H2.cell (i:=1) rfl rfl,H2.cell (i:=1) rfl rfl⟩
 clear hK K hHeld
 have hHeld:=hHeld2
 clear hHeld2
 clear H
 have H:=Lib.hid H2
 clear H2
 try simp only [Array.reduceGetElem,zs]
 refine wpAnyM_ready (rs:=[7]) (by kernel_rfl) (by simp) ?_
 refine AllReadyM.cons rfl (fun K hK=>?_) AllReadyM.nil
 rw [if_pos (by rfl)]
 refine H.out.o_append (r:=aggD (([99,111,117,110,116],[],(nameP (wantP [97,115] (wantP [41] (wantP [40] s1)))).1))) rfl Tryz.underlying54 iAg_ rfl (by decide) (by decide) 0 rfl rfl rfl rfl rfl 0 rfl rfl (row_agg _) (by show (acc.map aggD).length+1≤1000000;rw [List.length_map];omega) (fun wl ao cap _ H2=>?_)
 refine hK.out _ _ ?_ (fun hHeld2=>?_)
 ·exact ⟨H2.cell (i:=iq+3) (hQ _) rfl,H2.cell (i:=ia+3) (hA _) (hus _),H2.cell (i:=1) rfl rfl,H2.cell (i:=1) rfl rfl,H2.cell (i:=1) rfl rfl⟩
 clear hK K hHeld
 have hHeld:=hHeld2
 clear hHeld2
 clear H
 have H:=Lib.hid H2
 clear H2
 try simp only [Array.reduceGetElem,zs]
 refine tkP 8 rfl (by kernel_rfl) hHeld (Or.inl ⟨by rfl,by intro w hSw;clear hSw;go_simp<;>with_reducible rfl⟩) ?_
 try simp only [Array.reduceGetElem,zs]
 refine tkM 9 rfl (by kernel_rfl) hHeld (Or.inl ⟨by rfl,by intro w hSw;(try dsimp only at hSw);go_simp<;>with_reducible rfl⟩) ?_
 try simp only [Array.reduceGetElem,zs]
 refine wpAnyM_ready (rs:=[10]) (by kernel_rfl) (by simp) ?_
 refine AllReadyM.last rfl (by kernel_rfl) (fun K hK=>?_) AllReadyM.nil
 rw [if_pos (by rfl)]
 refine H.out.o_store1 rfl rfl rfl (ia+3) (hA v) HL.out sSAg_ rfl (fun wl H2=>?_)
 refine hK.out _ _ ?_
 clear hK K
 clear H
 have H:=Lib.hid H2
 clear H2
 try simp only [Array.reduceGetElem,zs]
 refine wpAnyM_done (by kernel_rfl) ?_ _
 go_wp2_with fail
 go_end0
 have H3:=H.out.drop (L':=Lf (.slice ao ((acc.map aggD).length+1) cap)) (by
  have e:=hset v (.slice ao ((acc.map aggD).length+1) cap)
  rw [← e]
  exact .cons _ (.cons _ (.cons _ (List.Sublist.refl _))))
 have e1:(aggItem acc s).1.map aggD=acc.map aggD++[aggD (([99,111,117,110,116],[],(nameP (wantP [97,115] (wantP [41] (wantP [40] s1)))).1))]:=by
  rw [HI.out acc]
  rw [List.map_append];rfl
 exact ⟨rfl,by rw [HI.out acc] at HG ⊢;rw [List.length_append];exact HG.out,.slice ao ((acc.map aggD).length+1) cap,_,by rw [e1,HI.out acc];exact H3⟩
set_option maxRecDepth 100000 in
set_option maxHeartbeats 1600000 in
theorem group1_1f {w0:World} {B A C Q ia ic iq d:Nat} {us:Value→List Value} {Lf:Value→List Bx} {D:List (List Dat × List Value)} {O:List Ow} (hA:∀ v,(Lf v)[ia]?=some (A,us v)) (hus:∀ v,(us v)[13]?=some v) (hC:∀ v,(Lf v)[ic]?=some (C,[.pointer (some ⟨B,0,none⟩)])) (hset:∀ v v',(Lf v).set ia (A,(us v).set 13 v')=Lf v') (hQ:∀ v,(Lf v)[iq]?=some (Q,[.pointer (some ⟨A,0,none⟩)])) (w:World) (acc:List _) (s s1:Ps) (h1:oneP aggWords s=(1,s1)) (hb:isP (wantP [40] s1) [41]=false) (h:Gt 0 B d w0 Lf D O 67 3 aggD w acc s) :
 Calls Tryz.prog 145 #[.pointer (some ⟨C,0,none⟩),.pointer (some ⟨Q,0,none⟩)] w fun e w'=>e=.returned (.tuple #[])∧Gt 1 B d w0 Lf D O 67 3 aggD w' (aggItem acc s).1 (aggItem acc s).2:=by
 have HI:Hid (∀ acc,aggItem acc s=(acc++[([99,111,117,110,116],(nameP (wantP [40] s1)).1,(nameP (wantP [97,115] (wantP [41] (nameP (wantP [40] s1)).2))).1)],(nameP (wantP [97,115] (wantP [41] (nameP (wantP [40] s1)).2))).2)):=fun acc=>by
  unfold aggItem
  rw [h1]
  simp only
  rw [show aggCol (wantP [40] s1)=((nameP (wantP [40] s1)).1,(nameP (wantP [40] s1)).2) from by unfold aggCol;rw [hb];rfl]
  rfl
 have HO:Hid (∀ W v,PAt W B d s→OpsAt W B v aggWords→Calls Tryz.prog 90 #[.pointer (some ⟨B,0,none⟩),v] W (OneTo W B d (1,s1))):=fun W v hP hO=>by
  have:=one_any aggWords s v W B d (by decide) hP hO
  rw [h1] at this
  exact this
 have HIS:Hid (∀ W,PAt W B d (wantP [40] s1)→Calls Tryz.prog 107 #[.pointer (some ⟨B,0,none⟩),.string ⟨#[41]⟩] W fun e w'=>e=.returned (.bool false)∧Below W.heap.size W w'):=fun W hW=>is_any (wantP [40] s1) [41] false hb W B d hW
 clear h1 hb
 obtain ⟨hacc,v,cells,hs⟩:=h
 have hil:=hs.pat.il
 have htl:=hs.pat.tl
 have HG:Hid (acc.length+1≤(aggItem acc s).2.i+1):=by
  have:=(goes_aggItem acc s).i
  show acc.length+1≤(aggItem acc s).2.i+1
  omega
 have hacc2:acc.length≤20000:=by omega
 have H:=Lib.hid hs
 have hl:13 < (us v).length:=(List.getElem?_eq_some_iff.1 (hus v)).1
 have HL:=Lib.hid hl
 clear hs hacc hl
 go_enter Tryz.func145,Tryz.ntmps145
 go_wp2_with (first|(first|(refine St.w_load1 (ty:=112) H.out.st (by rfl) rfl rfl (ic+0) (hC v) rfl uPar_ ?_)|(refine St.w_load1 (ty:=112) H.out.st (by rfl) rfl rfl (ic+1) (hC v) rfl uPar_ ?_)|(refine St.w_load1 (ty:=112) H.out.st (by rfl) rfl rfl (ic+2) (hC v) rfl uPar_ ?_)|(refine St.w_load1 (ty:=112) H.out.st (by rfl) rfl rfl (ic+3) (hC v) rfl uPar_ ?_))|(refine Sr.w_lit H.out (by rfl) rfl Tryz.underlying48 iStr2_ [.string ⟨#[99,111,117,110,116]⟩,.string ⟨#[115,117,109]⟩,.string ⟨#[109,105,110]⟩,.string ⟨#[109,97,120]⟩] rfl rfl rfl (by decide) (by decide) (by decide) (all_k rfl) rfl ?_;intro wl Cl H2;replace H:=Lib.hid H2;clear H2)|(refine Sr.w_alloc (ty:=67) H.out (by rfl) rfl zAg_ rfl ?_;intro wn Cn H2;replace H:=Lib.hid H2;clear H2)|(go_at_call 90;(with_reducible (refine (HO.out _ (.slice (some ⟨_,0,none⟩) 4 4) H.out.pat (ops_box H.out (i:=1) rfl aggWords rfl rfl (by decide))).mono ?_));rintro e wc ⟨rfl,hK,hP⟩;have H2:=H.out.call hK hP;clear hK hP;replace H:=Lib.hid H2;clear H2)|(first|(go_at_call 94;(with_reducible (refine (want_any s1 [40] _ B d H.out.pat).mono ?_));rintro e wc ⟨rfl,hK,hP⟩;have H2:=H.out.call hK hP;clear hK hP;replace H:=Lib.hid H2;clear H2)|(go_at_call 94;(with_reducible (refine (want_any (nameP (wantP [40] s1)).2 [41] _ B d H.out.pat).mono ?_));rintro e wc ⟨rfl,hK,hP⟩;have H2:=H.out.call hK hP;clear hK hP;replace H:=Lib.hid H2;clear H2)|(go_at_call 94;(with_reducible (refine (want_any (wantP [41] (nameP (wantP [40] s1)).2) [97,115] _ B d H.out.pat).mono ?_));rintro e wc ⟨rfl,hK,hP⟩;have H2:=H.out.call hK hP;clear hK hP;replace H:=Lib.hid H2;clear H2))|(go_at_call 107;(with_reducible (refine (HIS.out _ H.out.pat).mono ?_));rintro e wc ⟨rfl,hb⟩;have H2:=H.out.below hb;clear hb;replace H:=Lib.hid H2;clear H2)|(first|(go_at_call 109;(with_reducible (refine (name_any (wantP [40] s1) _ B d H.out.pat).mono ?_));rintro e wc ⟨rfl,hK,hP⟩;have H2:=H.out.call hK hP;clear hK hP;replace H:=Lib.hid H2;clear H2)|(go_at_call 109;(with_reducible (refine (name_any (wantP [97,115] (wantP [41] (nameP (wantP [40] s1)).2)) _ B d H.out.pat).mono ?_));rintro e wc ⟨rfl,hK,hP⟩;have H2:=H.out.call hK hP;clear hK hP;replace H:=Lib.hid H2;clear H2))|(first|(refine Sr.w_store1 (ty:=9) H.out (by rfl) rfl rfl rfl 0 rfl (Nat.le_of_ble_eq_true rfl) sStr_ rfl ?_;intro wn H2;replace H:=Lib.hid H2;clear H2))|(refine St.w_load1 (ty:=9) H.out.st (by rfl) rfl rfl 1 rfl rfl uStr_ ?_))
 have H2:=H.out.drew
 clear H
 have H:=Lib.hid H2
 clear H2
 refine wp_region_M_drew 10 (S:=fun W=>(W.cell? ⟨Q,0,none⟩=some (.pointer (some ⟨A,0,none⟩))∧W.cell? ⟨A,13,none⟩=some v∧W.cell? ⟨Cn,0,none⟩=some (.string ⟨#[99,111,117,110,116]⟩)∧W.cell? ⟨Cn,1,none⟩=some (.string ⟨((nameP (wantP [40] s1)).1:Str).toArray⟩)∧W.cell? ⟨Cn,2,none⟩=some (.string ⟨(nameP (wantP [97,115] (wantP [41] (nameP (wantP [40] s1)).2))).1.toArray⟩))) (by kernel_rfl) (by exact ⟨H.out.cell (i:=iq+2) (hQ _) rfl,H.out.cell (i:=ia+2) (hA _) (hus _),H.out.cell (i:=0) rfl rfl,H.out.cell (i:=0) rfl rfl,H.out.cell (i:=0) rfl rfl⟩) (fun hHeld=>?_)
 refine tkM 0 rfl (by kernel_rfl) hHeld (Or.inl ⟨by rfl,by intro w hSw;(try dsimp only at hSw);go_simp<;>with_reducible rfl⟩) ?_
 try simp only [Array.reduceGetElem,zs]
 refine tkM 1 rfl (by kernel_rfl) hHeld (Or.inl ⟨by rfl,by intro w hSw;(try dsimp only at hSw);go_simp<;>with_reducible rfl⟩) ?_
 try simp only [Array.reduceGetElem,zs]
 refine tkM 2 rfl (by kernel_rfl) hHeld (Or.inl ⟨by rfl,by intro w hSw;(try dsimp only at hSw);go_simp<;>with_reducible rfl⟩) ?_
 try simp only [Array.reduceGetElem,zs]
 refine tkM 3 rfl (by kernel_rfl) hHeld (Or.inl ⟨by rfl,by intro w hSw;(try dsimp only at hSw);go_simp<;>with_reducible rfl⟩) ?_
 try simp only [Array.reduceGetElem,zs]
 refine tkM 4 rfl (by kernel_rfl) hHeld (Or.inl ⟨by rfl,by intro w hSw;(try dsimp only at hSw);go_simp<;>with_reducible rfl⟩) ?_
 try simp only [Array.reduceGetElem,zs]
 refine tkM 5 rfl (by kernel_rfl) hHeld (Or.inl ⟨by rfl,by intro w hSw;(try dsimp only at hSw);go_simp<;>with_reducible rfl⟩) ?_
 try simp only [Array.reduceGetElem,zs]
 refine wpAnyM_ready (rs:=[6]) (by kernel_rfl) (by simp) ?_
 refine AllReadyM.cons rfl (fun K hK=>?_) AllReadyM.nil
 rw [if_pos (by rfl)]
 refine H.out.o_lit1 rfl Tryz.underlying54 iAg2_ rfl rfl (by decide) (by decide) rfl rfl (fun wl Cl H2=>?_)
 refine hK.out _ _ ?_ (fun hHeld2=>?_)
 ·exact ⟨H2.cell (i:=iq+3) (hQ _) rfl,H2.cell (i:=ia+3) (hA _) (hus _),H2.cell (i:=1) rfl rfl,H2.cell (i:=1) rfl rfl,H2.cell (i:=1) rfl rfl⟩
 clear hK K hHeld
 have hHeld:=hHeld2
 clear hHeld2
 clear H
 have H:=Lib.hid H2
 clear H2
 try simp only [Array.reduceGetElem,zs]
 refine wpAnyM_ready (rs:=[7]) (by kernel_rfl) (by simp) ?_
 refine AllReadyM.cons rfl (fun K hK=>?_) AllReadyM.nil
 rw [if_pos (by rfl)]
 refine H.out.o_append (r:=aggD (([99,111,117,110,116],(nameP (wantP [40] s1)).1,(nameP (wantP [97,115] (wantP [41] (nameP (wantP [40] s1)).2))).1))) rfl Tryz.underlying54 iAg_ rfl (by decide) (by decide) 0 rfl rfl rfl rfl rfl 0 rfl rfl (row_agg _) (by show (acc.map aggD).length+1≤1000000;rw [List.length_map];omega) (fun wl ao cap _ H2=>?_)
 refine hK.out _ _ ?_ (fun hHeld2=>?_)
 ·exact ⟨H2.cell (i:=iq+3) (hQ _) rfl,H2.cell (i:=ia+3) (hA _) (hus _),H2.cell (i:=1) rfl rfl,H2.cell (i:=1) rfl rfl,H2.cell (i:=1) rfl rfl⟩
 clear hK K hHeld
 have hHeld:=hHeld2
 clear hHeld2
 clear H
 have H:=Lib.hid H2
 clear H2
 try simp only [Array.reduceGetElem,zs]
 refine tkP 8 rfl (by kernel_rfl) hHeld (Or.inl ⟨by rfl,by intro w hSw;clear hSw;go_simp<;>with_reducible rfl⟩) ?_
 try simp only [Array.reduceGetElem,zs]
 refine tkM 9 rfl (by kernel_rfl) hHeld (Or.inl ⟨by rfl,by intro w hSw;(try dsimp only at hSw);go_simp<;>with_reducible rfl⟩) ?_
 try simp only [Array.reduceGetElem,zs]
 refine wpAnyM_ready (rs:=[10]) (by kernel_rfl) (by simp) ?_
 refine AllReadyM.last rfl (by kernel_rfl) (fun K hK=>?_) AllReadyM.nil
 rw [if_pos (by rfl)]
 refine H.out.o_store1 rfl rfl rfl (ia+3) (hA v) HL.out sSAg_ rfl (fun wl H2=>?_)
 refine hK.out _ _ ?_
 clear hK K
 clear H
 have H:=Lib.hid H2
 clear H2
 try simp only [Array.reduceGetElem,zs]
 refine wpAnyM_done (by kernel_rfl) ?_ _
 go_wp2_with fail
 go_end0
 have H3:=H.out.drop (L':=Lf (.slice ao ((acc.map aggD).length+1) cap)) (by
  have e:=hset v (.slice ao ((acc.map aggD).length+1) cap)
  rw [← e]
  exact .cons _ (.cons _ (.cons _ (List.Sublist.refl _))))
 have e1:(aggItem acc s).1.map aggD=acc.map aggD++[aggD (([99,111,117,110,116],(nameP (wantP [40] s1)).1,(nameP (wantP [97,115] (wantP [41] (nameP (wantP [40] s1)).2))).1))]:=by
  rw [HI.out acc]
  rw [List.map_append];rfl
 exact ⟨rfl,by rw [HI.out acc] at HG ⊢;rw [List.length_append];exact HG.out,.slice ao ((acc.map aggD).length+1) cap,_,by rw [e1,HI.out acc];exact H3⟩
set_option maxRecDepth 100000 in
set_option maxHeartbeats 1600000 in
theorem group1_2t {w0:World} {B A C Q ia ic iq d:Nat} {us:Value→List Value} {Lf:Value→List Bx} {D:List (List Dat × List Value)} {O:List Ow} (hA:∀ v,(Lf v)[ia]?=some (A,us v)) (hus:∀ v,(us v)[13]?=some v) (hC:∀ v,(Lf v)[ic]?=some (C,[.pointer (some ⟨B,0,none⟩)])) (hset:∀ v v',(Lf v).set ia (A,(us v).set 13 v')=Lf v') (hQ:∀ v,(Lf v)[iq]?=some (Q,[.pointer (some ⟨A,0,none⟩)])) (w:World) (acc:List _) (s s1:Ps) (h1:oneP aggWords s=(2,s1)) (hb:isP (wantP [40] s1) [41]=true) (h:Gt 0 B d w0 Lf D O 67 3 aggD w acc s) :
 Calls Tryz.prog 145 #[.pointer (some ⟨C,0,none⟩),.pointer (some ⟨Q,0,none⟩)] w fun e w'=>e=.returned (.tuple #[])∧Gt 1 B d w0 Lf D O 67 3 aggD w' (aggItem acc s).1 (aggItem acc s).2:=by
 have HI:Hid (∀ acc,aggItem acc s=(acc++[([115,117,109],[],(nameP (wantP [97,115] (wantP [41] (wantP [40] s1)))).1)],(nameP (wantP [97,115] (wantP [41] (wantP [40] s1)))).2)):=fun acc=>by
  unfold aggItem
  rw [h1]
  simp only
  rw [show aggCol (wantP [40] s1)=([],(wantP [40] s1)) from by unfold aggCol;rw [hb];rfl]
  rfl
 have HO:Hid (∀ W v,PAt W B d s→OpsAt W B v aggWords→Calls Tryz.prog 90 #[.pointer (some ⟨B,0,none⟩),v] W (OneTo W B d (2,s1))):=fun W v hP hO=>by
  have:=one_any aggWords s v W B d (by decide) hP hO
  rw [h1] at this
  exact this
 have HIS:Hid (∀ W,PAt W B d (wantP [40] s1)→Calls Tryz.prog 107 #[.pointer (some ⟨B,0,none⟩),.string ⟨#[41]⟩] W fun e w'=>e=.returned (.bool true)∧Below W.heap.size W w'):=fun W hW=>is_any (wantP [40] s1) [41] true hb W B d hW
 clear h1 hb
 obtain ⟨hacc,v,cells,hs⟩:=h
 have hil:=hs.pat.il
 have htl:=hs.pat.tl
 have HG:Hid (acc.length+1≤(aggItem acc s).2.i+1):=by
  have:=(goes_aggItem acc s).i
  show acc.length+1≤(aggItem acc s).2.i+1
  omega
 have hacc2:acc.length≤20000:=by omega
 have H:=Lib.hid hs
 have hl:13 < (us v).length:=(List.getElem?_eq_some_iff.1 (hus v)).1
 have HL:=Lib.hid hl
 clear hs hacc hl
 go_enter Tryz.func145,Tryz.ntmps145
 go_wp2_with (first|(first|(refine St.w_load1 (ty:=112) H.out.st (by rfl) rfl rfl (ic+0) (hC v) rfl uPar_ ?_)|(refine St.w_load1 (ty:=112) H.out.st (by rfl) rfl rfl (ic+1) (hC v) rfl uPar_ ?_)|(refine St.w_load1 (ty:=112) H.out.st (by rfl) rfl rfl (ic+2) (hC v) rfl uPar_ ?_)|(refine St.w_load1 (ty:=112) H.out.st (by rfl) rfl rfl (ic+3) (hC v) rfl uPar_ ?_))|(refine Sr.w_lit H.out (by rfl) rfl Tryz.underlying48 iStr2_ [.string ⟨#[99,111,117,110,116]⟩,.string ⟨#[115,117,109]⟩,.string ⟨#[109,105,110]⟩,.string ⟨#[109,97,120]⟩] rfl rfl rfl (by decide) (by decide) (by decide) (all_k rfl) rfl ?_;intro wl Cl H2;replace H:=Lib.hid H2;clear H2)|(refine Sr.w_alloc (ty:=67) H.out (by rfl) rfl zAg_ rfl ?_;intro wn Cn H2;replace H:=Lib.hid H2;clear H2)|(go_at_call 90;(with_reducible (refine (HO.out _ (.slice (some ⟨_,0,none⟩) 4 4) H.out.pat (ops_box H.out (i:=1) rfl aggWords rfl rfl (by decide))).mono ?_));rintro e wc ⟨rfl,hK,hP⟩;have H2:=H.out.call hK hP;clear hK hP;replace H:=Lib.hid H2;clear H2)|(first|(go_at_call 94;(with_reducible (refine (want_any s1 [40] _ B d H.out.pat).mono ?_));rintro e wc ⟨rfl,hK,hP⟩;have H2:=H.out.call hK hP;clear hK hP;replace H:=Lib.hid H2;clear H2)|(go_at_call 94;(with_reducible (refine (want_any (wantP [40] s1) [41] _ B d H.out.pat).mono ?_));rintro e wc ⟨rfl,hK,hP⟩;have H2:=H.out.call hK hP;clear hK hP;replace H:=Lib.hid H2;clear H2)|(go_at_call 94;(with_reducible (refine (want_any (wantP [41] (wantP [40] s1)) [97,115] _ B d H.out.pat).mono ?_));rintro e wc ⟨rfl,hK,hP⟩;have H2:=H.out.call hK hP;clear hK hP;replace H:=Lib.hid H2;clear H2))|(go_at_call 107;(with_reducible (refine (HIS.out _ H.out.pat).mono ?_));rintro e wc ⟨rfl,hb⟩;have H2:=H.out.below hb;clear hb;replace H:=Lib.hid H2;clear H2)|(go_at_call 109;(with_reducible (refine (name_any (wantP [97,115] (wantP [41] (wantP [40] s1))) _ B d H.out.pat).mono ?_));rintro e wc ⟨rfl,hK,hP⟩;have H2:=H.out.call hK hP;clear hK hP;replace H:=Lib.hid H2;clear H2)|(first|(refine Sr.w_store1 (ty:=9) H.out (by rfl) rfl rfl rfl 0 rfl (Nat.le_of_ble_eq_true rfl) sStr_ rfl ?_;intro wn H2;replace H:=Lib.hid H2;clear H2))|(refine St.w_load1 (ty:=9) H.out.st (by rfl) rfl rfl 1 rfl rfl uStr_ ?_))
 have H2:=H.out.drew
 clear H
 have H:=Lib.hid H2
 clear H2
 refine wp_region_M_drew 10 (S:=fun W=>(W.cell? ⟨Q,0,none⟩=some (.pointer (some ⟨A,0,none⟩))∧W.cell? ⟨A,13,none⟩=some v∧W.cell? ⟨Cn,0,none⟩=some (.string ⟨#[115,117,109]⟩)∧W.cell? ⟨Cn,1,none⟩=some (.string ⟨#[]⟩)∧W.cell? ⟨Cn,2,none⟩=some (.string ⟨(nameP (wantP [97,115] (wantP [41] (wantP [40] s1)))).1.toArray⟩))) (by kernel_rfl) (by exact ⟨H.out.cell (i:=iq+2) (hQ _) rfl,H.out.cell (i:=ia+2) (hA _) (hus _),H.out.cell (i:=0) rfl rfl,H.out.cell (i:=0) rfl rfl,H.out.cell (i:=0) rfl rfl⟩) (fun hHeld=>?_)
 refine tkM 0 rfl (by kernel_rfl) hHeld (Or.inl ⟨by rfl,by intro w hSw;(try dsimp only at hSw);go_simp<;>with_reducible rfl⟩) ?_
 try simp only [Array.reduceGetElem,zs]
 refine tkM 1 rfl (by kernel_rfl) hHeld (Or.inl ⟨by rfl,by intro w hSw;(try dsimp only at hSw);go_simp<;>with_reducible rfl⟩) ?_
 try simp only [Array.reduceGetElem,zs]
 refine tkM 2 rfl (by kernel_rfl) hHeld (Or.inl ⟨by rfl,by intro w hSw;(try dsimp only at hSw);go_simp<;>with_reducible rfl⟩) ?_
 try simp only [Array.reduceGetElem,zs]
 refine tkM 3 rfl (by kernel_rfl) hHeld (Or.inl ⟨by rfl,by intro w hSw;(try dsimp only at hSw);go_simp<;>with_reducible rfl⟩) ?_
 try simp only [Array.reduceGetElem,zs]
 refine tkM 4 rfl (by kernel_rfl) hHeld (Or.inl ⟨by rfl,by intro w hSw;(try dsimp only at hSw);go_simp<;>with_reducible rfl⟩) ?_
 try simp only [Array.reduceGetElem,zs]
 refine tkM 5 rfl (by kernel_rfl) hHeld (Or.inl ⟨by rfl,by intro w hSw;(try dsimp only at hSw);go_simp<;>with_reducible rfl⟩) ?_
 try simp only [Array.reduceGetElem,zs]
 refine wpAnyM_ready (rs:=[6]) (by kernel_rfl) (by simp) ?_
 refine AllReadyM.cons rfl (fun K hK=>?_) AllReadyM.nil
 rw [if_pos (by rfl)]
 refine H.out.o_lit1 rfl Tryz.underlying54 iAg2_ rfl rfl (by decide) (by decide) rfl rfl (fun wl Cl H2=>?_)
 refine hK.out _ _ ?_ (fun hHeld2=>?_)
 ·exact ⟨H2.cell (i:=iq+3) (hQ _) rfl,H2.cell (i:=ia+3) (hA _) (hus _),H2.cell (i:=1) rfl rfl,H2.cell (i:=1) rfl rfl,H2.cell (i:=1) rfl rfl⟩
 clear hK K hHeld
 have hHeld:=hHeld2
 clear hHeld2
 clear H
 have H:=Lib.hid H2
 clear H2
 try simp only [Array.reduceGetElem,zs]
 refine wpAnyM_ready (rs:=[7]) (by kernel_rfl) (by simp) ?_
 refine AllReadyM.cons rfl (fun K hK=>?_) AllReadyM.nil
 rw [if_pos (by rfl)]
 refine H.out.o_append (r:=aggD (([115,117,109],[],(nameP (wantP [97,115] (wantP [41] (wantP [40] s1)))).1))) rfl Tryz.underlying54 iAg_ rfl (by decide) (by decide) 0 rfl rfl rfl rfl rfl 0 rfl rfl (row_agg _) (by show (acc.map aggD).length+1≤1000000;rw [List.length_map];omega) (fun wl ao cap _ H2=>?_)
 refine hK.out _ _ ?_ (fun hHeld2=>?_)
 ·exact ⟨H2.cell (i:=iq+3) (hQ _) rfl,H2.cell (i:=ia+3) (hA _) (hus _),H2.cell (i:=1) rfl rfl,H2.cell (i:=1) rfl rfl,H2.cell (i:=1) rfl rfl⟩
 clear hK K hHeld
 have hHeld:=hHeld2
 clear hHeld2
 clear H
 have H:=Lib.hid H2
 clear H2
 try simp only [Array.reduceGetElem,zs]
 refine tkP 8 rfl (by kernel_rfl) hHeld (Or.inl ⟨by rfl,by intro w hSw;clear hSw;go_simp<;>with_reducible rfl⟩) ?_
 try simp only [Array.reduceGetElem,zs]
 refine tkM 9 rfl (by kernel_rfl) hHeld (Or.inl ⟨by rfl,by intro w hSw;(try dsimp only at hSw);go_simp<;>with_reducible rfl⟩) ?_
 try simp only [Array.reduceGetElem,zs]
 refine wpAnyM_ready (rs:=[10]) (by kernel_rfl) (by simp) ?_
 refine AllReadyM.last rfl (by kernel_rfl) (fun K hK=>?_) AllReadyM.nil
 rw [if_pos (by rfl)]
 refine H.out.o_store1 rfl rfl rfl (ia+3) (hA v) HL.out sSAg_ rfl (fun wl H2=>?_)
 refine hK.out _ _ ?_
 clear hK K
 clear H
 have H:=Lib.hid H2
 clear H2
 try simp only [Array.reduceGetElem,zs]
 refine wpAnyM_done (by kernel_rfl) ?_ _
 go_wp2_with fail
 go_end0
 have H3:=H.out.drop (L':=Lf (.slice ao ((acc.map aggD).length+1) cap)) (by
  have e:=hset v (.slice ao ((acc.map aggD).length+1) cap)
  rw [← e]
  exact .cons _ (.cons _ (.cons _ (List.Sublist.refl _))))
 have e1:(aggItem acc s).1.map aggD=acc.map aggD++[aggD (([115,117,109],[],(nameP (wantP [97,115] (wantP [41] (wantP [40] s1)))).1))]:=by
  rw [HI.out acc]
  rw [List.map_append];rfl
 exact ⟨rfl,by rw [HI.out acc] at HG ⊢;rw [List.length_append];exact HG.out,.slice ao ((acc.map aggD).length+1) cap,_,by rw [e1,HI.out acc];exact H3⟩
set_option maxRecDepth 100000 in
set_option maxHeartbeats 1600000 in
theorem group1_2f {w0:World} {B A C Q ia ic iq d:Nat} {us:Value→List Value} {Lf:Value→List Bx} {D:List (List Dat × List Value)} {O:List Ow} (hA:∀ v,(Lf v)[ia]?=some (A,us v)) (hus:∀ v,(us v)[13]?=some v) (hC:∀ v,(Lf v)[ic]?=some (C,[.pointer (some ⟨B,0,none⟩)])) (hset:∀ v v',(Lf v).set ia (A,(us v).set 13 v')=Lf v') (hQ:∀ v,(Lf v)[iq]?=some (Q,[.pointer (some ⟨A,0,none⟩)])) (w:World) (acc:List _) (s s1:Ps) (h1:oneP aggWords s=(2,s1)) (hb:isP (wantP [40] s1) [41]=false) (h:Gt 0 B d w0 Lf D O 67 3 aggD w acc s) :
 Calls Tryz.prog 145 #[.pointer (some ⟨C,0,none⟩),.pointer (some ⟨Q,0,none⟩)] w fun e w'=>e=.returned (.tuple #[])∧Gt 1 B d w0 Lf D O 67 3 aggD w' (aggItem acc s).1 (aggItem acc s).2:=by
 have HI:Hid (∀ acc,aggItem acc s=(acc++[([115,117,109],(nameP (wantP [40] s1)).1,(nameP (wantP [97,115] (wantP [41] (nameP (wantP [40] s1)).2))).1)],(nameP (wantP [97,115] (wantP [41] (nameP (wantP [40] s1)).2))).2)):=fun acc=>by
  unfold aggItem
  rw [h1]
  simp only
  rw [show aggCol (wantP [40] s1)=((nameP (wantP [40] s1)).1,(nameP (wantP [40] s1)).2) from by unfold aggCol;rw [hb];rfl]
  rfl
 have HO:Hid (∀ W v,PAt W B d s→OpsAt W B v aggWords→Calls Tryz.prog 90 #[.pointer (some ⟨B,0,none⟩),v] W (OneTo W B d (2,s1))):=fun W v hP hO=>by
  have:=one_any aggWords s v W B d (by decide) hP hO
  rw [h1] at this
  exact this
 have HIS:Hid (∀ W,PAt W B d (wantP [40] s1)→Calls Tryz.prog 107 #[.pointer (some ⟨B,0,none⟩),.string ⟨#[41]⟩] W fun e w'=>e=.returned (.bool false)∧Below W.heap.size W w'):=fun W hW=>is_any (wantP [40] s1) [41] false hb W B d hW
 clear h1 hb
 obtain ⟨hacc,v,cells,hs⟩:=h
 have hil:=hs.pat.il
 have htl:=hs.pat.tl
 have HG:Hid (acc.length+1≤(aggItem acc s).2.i+1):=by
  have:=(goes_aggItem acc s).i
  show acc.length+1≤(aggItem acc s).2.i+1
  omega
 have hacc2:acc.length≤20000:=by omega
 have H:=Lib.hid hs
 have hl:13 < (us v).length:=(List.getElem?_eq_some_iff.1 (hus v)).1
 have HL:=Lib.hid hl
 clear hs hacc hl
 go_enter Tryz.func145,Tryz.ntmps145
 go_wp2_with (first|(first|(refine St.w_load1 (ty:=112) H.out.st (by rfl) rfl rfl (ic+0) (hC v) rfl uPar_ ?_)|(refine St.w_load1 (ty:=112) H.out.st (by rfl) rfl rfl (ic+1) (hC v) rfl uPar_ ?_)|(refine St.w_load1 (ty:=112) H.out.st (by rfl) rfl rfl (ic+2) (hC v) rfl uPar_ ?_)|(refine St.w_load1 (ty:=112) H.out.st (by rfl) rfl rfl (ic+3) (hC v) rfl uPar_ ?_))|(refine Sr.w_lit H.out (by rfl) rfl Tryz.underlying48 iStr2_ [.string ⟨#[99,111,117,110,116]⟩,.string ⟨#[115,117,109]⟩,.string ⟨#[109,105,110]⟩,.string ⟨#[109,97,120]⟩] rfl rfl rfl (by decide) (by decide) (by decide) (all_k rfl) rfl ?_;intro wl Cl H2;replace H:=Lib.hid H2;clear H2)|(refine Sr.w_alloc (ty:=67) H.out (by rfl) rfl zAg_ rfl ?_;intro wn Cn H2;replace H:=Lib.hid H2;clear H2)|(go_at_call 90;(with_reducible (refine (HO.out _ (.slice (some ⟨_,0,none⟩) 4 4) H.out.pat (ops_box H.out (i:=1) rfl aggWords rfl rfl (by decide))).mono ?_));rintro e wc ⟨rfl,hK,hP⟩;have H2:=H.out.call hK hP;clear hK hP;replace H:=Lib.hid H2;clear H2)|(first|(go_at_call 94;(with_reducible (refine (want_any s1 [40] _ B d H.out.pat).mono ?_));rintro e wc ⟨rfl,hK,hP⟩;have H2:=H.out.call hK hP;clear hK hP;replace H:=Lib.hid H2;clear H2)|(go_at_call 94;(with_reducible (refine (want_any (nameP (wantP [40] s1)).2 [41] _ B d H.out.pat).mono ?_));rintro e wc ⟨rfl,hK,hP⟩;have H2:=H.out.call hK hP;clear hK hP;replace H:=Lib.hid H2;clear H2)|(go_at_call 94;(with_reducible (refine (want_any (wantP [41] (nameP (wantP [40] s1)).2) [97,115] _ B d H.out.pat).mono ?_));rintro e wc ⟨rfl,hK,hP⟩;have H2:=H.out.call hK hP;clear hK hP;replace H:=Lib.hid H2;clear H2))|(go_at_call 107;(with_reducible (refine (HIS.out _ H.out.pat).mono ?_));rintro e wc ⟨rfl,hb⟩;have H2:=H.out.below hb;clear hb;replace H:=Lib.hid H2;clear H2)|(first|(go_at_call 109;(with_reducible (refine (name_any (wantP [40] s1) _ B d H.out.pat).mono ?_));rintro e wc ⟨rfl,hK,hP⟩;have H2:=H.out.call hK hP;clear hK hP;replace H:=Lib.hid H2;clear H2)|(go_at_call 109;(with_reducible (refine (name_any (wantP [97,115] (wantP [41] (nameP (wantP [40] s1)).2)) _ B d H.out.pat).mono ?_));rintro e wc ⟨rfl,hK,hP⟩;have H2:=H.out.call hK hP;clear hK hP;replace H:=Lib.hid H2;clear H2))|(first|(refine Sr.w_store1 (ty:=9) H.out (by rfl) rfl rfl rfl 0 rfl (Nat.le_of_ble_eq_true rfl) sStr_ rfl ?_;intro wn H2;replace H:=Lib.hid H2;clear H2))|(refine St.w_load1 (ty:=9) H.out.st (by rfl) rfl rfl 1 rfl rfl uStr_ ?_))
 have H2:=H.out.drew
 clear H
 have H:=Lib.hid H2
 clear H2
 refine wp_region_M_drew 10 (S:=fun W=>(W.cell? ⟨Q,0,none⟩=some (.pointer (some ⟨A,0,none⟩))∧W.cell? ⟨A,13,none⟩=some v∧W.cell? ⟨Cn,0,none⟩=some (.string ⟨#[115,117,109]⟩)∧W.cell? ⟨Cn,1,none⟩=some (.string ⟨((nameP (wantP [40] s1)).1:Str).toArray⟩)∧W.cell? ⟨Cn,2,none⟩=some (.string ⟨(nameP (wantP [97,115] (wantP [41] (nameP (wantP [40] s1)).2))).1.toArray⟩))) (by kernel_rfl) (by exact ⟨H.out.cell (i:=iq+2) (hQ _) rfl,H.out.cell (i:=ia+2) (hA _) (hus _),H.out.cell (i:=0) rfl rfl,H.out.cell (i:=0) rfl rfl,H.out.cell (i:=0) rfl rfl⟩) (fun hHeld=>?_)
 refine tkM 0 rfl (by kernel_rfl) hHeld (Or.inl ⟨by rfl,by intro w hSw;(try dsimp only at hSw);go_simp<;>with_reducible rfl⟩) ?_
 try simp only [Array.reduceGetElem,zs]
 refine tkM 1 rfl (by kernel_rfl) hHeld (Or.inl ⟨by rfl,by intro w hSw;(try dsimp only at hSw);go_simp<;>with_reducible rfl⟩) ?_
 try simp only [Array.reduceGetElem,zs]
 refine tkM 2 rfl (by kernel_rfl) hHeld (Or.inl ⟨by rfl,by intro w hSw;(try dsimp only at hSw);go_simp<;>with_reducible rfl⟩) ?_
 try simp only [Array.reduceGetElem,zs]
 refine tkM 3 rfl (by kernel_rfl) hHeld (Or.inl ⟨by rfl,by intro w hSw;(try dsimp only at hSw);go_simp<;>with_reducible rfl⟩) ?_
 try simp only [Array.reduceGetElem,zs]
 refine tkM 4 rfl (by kernel_rfl) hHeld (Or.inl ⟨by rfl,by intro w hSw;(try dsimp only at hSw);go_simp<;>with_reducible rfl⟩) ?_
 try simp only [Array.reduceGetElem,zs]
 refine tkM 5 rfl (by kernel_rfl) hHeld (Or.inl ⟨by rfl,by intro w hSw;(try dsimp only at hSw);go_simp<;>with_reducible rfl⟩) ?_
 try simp only [Array.reduceGetElem,zs]
 refine wpAnyM_ready (rs:=[6]) (by kernel_rfl) (by simp) ?_
 refine AllReadyM.cons rfl (fun K hK=>?_) AllReadyM.nil
 rw [if_pos (by rfl)]
 refine H.out.o_lit1 rfl Tryz.underlying54 iAg2_ rfl rfl (by decide) (by decide) rfl rfl (fun wl Cl H2=>?_)
 refine hK.out _ _ ?_ (fun hHeld2=>?_)
 ·exact ⟨H2.cell (i:=iq+3) (hQ _) rfl,H2.cell (i:=ia+3) (hA _) (hus _),H2.cell (i:=1) rfl rfl,H2.cell (i:=1) rfl rfl,H2.cell (i:=1) rfl rfl⟩
 clear hK K hHeld
 have hHeld:=hHeld2
 clear hHeld2
 clear H
 have H:=Lib.hid H2
 clear H2
 try simp only [Array.reduceGetElem,zs]
 refine wpAnyM_ready (rs:=[7]) (by kernel_rfl) (by simp) ?_
 refine AllReadyM.cons rfl (fun K hK=>?_) AllReadyM.nil
 rw [if_pos (by rfl)]
 refine H.out.o_append (r:=aggD (([115,117,109],(nameP (wantP [40] s1)).1,(nameP (wantP [97,115] (wantP [41] (nameP (wantP [40] s1)).2))).1))) rfl Tryz.underlying54 iAg_ rfl (by decide) (by decide) 0 rfl rfl rfl rfl rfl 0 rfl rfl (row_agg _) (by show (acc.map aggD).length+1≤1000000;rw [List.length_map];omega) (fun wl ao cap _ H2=>?_)
 refine hK.out _ _ ?_ (fun hHeld2=>?_)
 ·exact ⟨H2.cell (i:=iq+3) (hQ _) rfl,H2.cell (i:=ia+3) (hA _) (hus _),H2.cell (i:=1) rfl rfl,H2.cell (i:=1) rfl rfl,H2.cell (i:=1) rfl rfl⟩
 clear hK K hHeld
 have hHeld:=hHeld2
 clear hHeld2
 clear H
 have H:=Lib.hid H2
 clear H2
 try simp only [Array.reduceGetElem,zs]
 refine tkP 8 rfl (by kernel_rfl) hHeld (Or.inl ⟨by rfl,by intro w hSw;clear hSw;go_simp<;>with_reducible rfl⟩) ?_
 try simp only [Array.reduceGetElem,zs]
 refine tkM 9 rfl (by kernel_rfl) hHeld (Or.inl ⟨by rfl,by intro w hSw;(try dsimp only at hSw);go_simp<;>with_reducible rfl⟩) ?_
 try simp only [Array.reduceGetElem,zs]
 refine wpAnyM_ready (rs:=[10]) (by kernel_rfl) (by simp) ?_
 refine AllReadyM.last rfl (by kernel_rfl) (fun K hK=>?_) AllReadyM.nil
 rw [if_pos (by rfl)]
 refine H.out.o_store1 rfl rfl rfl (ia+3) (hA v) HL.out sSAg_ rfl (fun wl H2=>?_)
 refine hK.out _ _ ?_
 clear hK K
 clear H
 have H:=Lib.hid H2
 clear H2
 try simp only [Array.reduceGetElem,zs]
 refine wpAnyM_done (by kernel_rfl) ?_ _
 go_wp2_with fail
 go_end0
 have H3:=H.out.drop (L':=Lf (.slice ao ((acc.map aggD).length+1) cap)) (by
  have e:=hset v (.slice ao ((acc.map aggD).length+1) cap)
  rw [← e]
  exact .cons _ (.cons _ (.cons _ (List.Sublist.refl _))))
 have e1:(aggItem acc s).1.map aggD=acc.map aggD++[aggD (([115,117,109],(nameP (wantP [40] s1)).1,(nameP (wantP [97,115] (wantP [41] (nameP (wantP [40] s1)).2))).1))]:=by
  rw [HI.out acc]
  rw [List.map_append];rfl
 exact ⟨rfl,by rw [HI.out acc] at HG ⊢;rw [List.length_append];exact HG.out,.slice ao ((acc.map aggD).length+1) cap,_,by rw [e1,HI.out acc];exact H3⟩
set_option maxRecDepth 100000 in
set_option maxHeartbeats 1600000 in
theorem group1_3t {w0:World} {B A C Q ia ic iq d:Nat} {us:Value→List Value} {Lf:Value→List Bx} {D:List (List Dat × List Value)} {O:List Ow} (hA:∀ v,(Lf v)[ia]?=some (A,us v)) (hus:∀ v,(us v)[13]?=some v) (hC:∀ v,(Lf v)[ic]?=some (C,[.pointer (some ⟨B,0,none⟩)])) (hset:∀ v v',(Lf v).set ia (A,(us v).set 13 v')=Lf v') (hQ:∀ v,(Lf v)[iq]?=some (Q,[.pointer (some ⟨A,0,none⟩)])) (w:World) (acc:List _) (s s1:Ps) (h1:oneP aggWords s=(3,s1)) (hb:isP (wantP [40] s1) [41]=true) (h:Gt 0 B d w0 Lf D O 67 3 aggD w acc s) :
 Calls Tryz.prog 145 #[.pointer (some ⟨C,0,none⟩),.pointer (some ⟨Q,0,none⟩)] w fun e w'=>e=.returned (.tuple #[])∧Gt 1 B d w0 Lf D O 67 3 aggD w' (aggItem acc s).1 (aggItem acc s).2:=by
 have HI:Hid (∀ acc,aggItem acc s=(acc++[([109,105,110],[],(nameP (wantP [97,115] (wantP [41] (wantP [40] s1)))).1)],(nameP (wantP [97,115] (wantP [41] (wantP [40] s1)))).2)):=fun acc=>by
  unfold aggItem
  rw [h1]
  simp only
  rw [show aggCol (wantP [40] s1)=([],(wantP [40] s1)) from by unfold aggCol;rw [hb];rfl]
  rfl
 have HO:Hid (∀ W v,PAt W B d s→OpsAt W B v aggWords→Calls Tryz.prog 90 #[.pointer (some ⟨B,0,none⟩),v] W (OneTo W B d (3,s1))):=fun W v hP hO=>by
  have:=one_any aggWords s v W B d (by decide) hP hO
  rw [h1] at this
  exact this
 have HIS:Hid (∀ W,PAt W B d (wantP [40] s1)→Calls Tryz.prog 107 #[.pointer (some ⟨B,0,none⟩),.string ⟨#[41]⟩] W fun e w'=>e=.returned (.bool true)∧Below W.heap.size W w'):=fun W hW=>is_any (wantP [40] s1) [41] true hb W B d hW
 clear h1 hb
 obtain ⟨hacc,v,cells,hs⟩:=h
 have hil:=hs.pat.il
 have htl:=hs.pat.tl
 have HG:Hid (acc.length+1≤(aggItem acc s).2.i+1):=by
  have:=(goes_aggItem acc s).i
  show acc.length+1≤(aggItem acc s).2.i+1
  omega
 have hacc2:acc.length≤20000:=by omega
 have H:=Lib.hid hs
 have hl:13 < (us v).length:=(List.getElem?_eq_some_iff.1 (hus v)).1
 have HL:=Lib.hid hl
 clear hs hacc hl
 go_enter Tryz.func145,Tryz.ntmps145
 go_wp2_with (first|(first|(refine St.w_load1 (ty:=112) H.out.st (by rfl) rfl rfl (ic+0) (hC v) rfl uPar_ ?_)|(refine St.w_load1 (ty:=112) H.out.st (by rfl) rfl rfl (ic+1) (hC v) rfl uPar_ ?_)|(refine St.w_load1 (ty:=112) H.out.st (by rfl) rfl rfl (ic+2) (hC v) rfl uPar_ ?_)|(refine St.w_load1 (ty:=112) H.out.st (by rfl) rfl rfl (ic+3) (hC v) rfl uPar_ ?_))|(refine Sr.w_lit H.out (by rfl) rfl Tryz.underlying48 iStr2_ [.string ⟨#[99,111,117,110,116]⟩,.string ⟨#[115,117,109]⟩,.string ⟨#[109,105,110]⟩,.string ⟨#[109,97,120]⟩] rfl rfl rfl (by decide) (by decide) (by decide) (all_k rfl) rfl ?_;intro wl Cl H2;replace H:=Lib.hid H2;clear H2)|(refine Sr.w_alloc (ty:=67) H.out (by rfl) rfl zAg_ rfl ?_;intro wn Cn H2;replace H:=Lib.hid H2;clear H2)|(go_at_call 90;(with_reducible (refine (HO.out _ (.slice (some ⟨_,0,none⟩) 4 4) H.out.pat (ops_box H.out (i:=1) rfl aggWords rfl rfl (by decide))).mono ?_));rintro e wc ⟨rfl,hK,hP⟩;have H2:=H.out.call hK hP;clear hK hP;replace H:=Lib.hid H2;clear H2)|(first|(go_at_call 94;(with_reducible (refine (want_any s1 [40] _ B d H.out.pat).mono ?_));rintro e wc ⟨rfl,hK,hP⟩;have H2:=H.out.call hK hP;clear hK hP;replace H:=Lib.hid H2;clear H2)|(go_at_call 94;(with_reducible (refine (want_any (wantP [40] s1) [41] _ B d H.out.pat).mono ?_));rintro e wc ⟨rfl,hK,hP⟩;have H2:=H.out.call hK hP;clear hK hP;replace H:=Lib.hid H2;clear H2)|(go_at_call 94;(with_reducible (refine (want_any (wantP [41] (wantP [40] s1)) [97,115] _ B d H.out.pat).mono ?_));rintro e wc ⟨rfl,hK,hP⟩;have H2:=H.out.call hK hP;clear hK hP;replace H:=Lib.hid H2;clear H2))|(go_at_call 107;(with_reducible (refine (HIS.out _ H.out.pat).mono ?_));rintro e wc ⟨rfl,hb⟩;have H2:=H.out.below hb;clear hb;replace H:=Lib.hid H2;clear H2)|(go_at_call 109;(with_reducible (refine (name_any (wantP [97,115] (wantP [41] (wantP [40] s1))) _ B d H.out.pat).mono ?_));rintro e wc ⟨rfl,hK,hP⟩;have H2:=H.out.call hK hP;clear hK hP;replace H:=Lib.hid H2;clear H2)|(first|(refine Sr.w_store1 (ty:=9) H.out (by rfl) rfl rfl rfl 0 rfl (Nat.le_of_ble_eq_true rfl) sStr_ rfl ?_;intro wn H2;replace H:=Lib.hid H2;clear H2))|(refine St.w_load1 (ty:=9) H.out.st (by rfl) rfl rfl 1 rfl rfl uStr_ ?_))
 have H2:=H.out.drew
 clear H
 have H:=Lib.hid H2
 clear H2
 refine wp_region_M_drew 10 (S:=fun W=>(W.cell? ⟨Q,0,none⟩=some (.pointer (some ⟨A,0,none⟩))∧W.cell? ⟨A,13,none⟩=some v∧W.cell? ⟨Cn,0,none⟩=some (.string ⟨#[109,105,110]⟩)∧W.cell? ⟨Cn,1,none⟩=some (.string ⟨#[]⟩)∧W.cell? ⟨Cn,2,none⟩=some (.string ⟨(nameP (wantP [97,115] (wantP [41] (wantP [40] s1)))).1.toArray⟩))) (by kernel_rfl) (by exact ⟨H.out.cell (i:=iq+2) (hQ _) rfl,H.out.cell (i:=ia+2) (hA _) (hus _),H.out.cell (i:=0) rfl rfl,H.out.cell (i:=0) rfl rfl,H.out.cell (i:=0) rfl rfl⟩) (fun hHeld=>?_)
 refine tkM 0 rfl (by kernel_rfl) hHeld (Or.inl ⟨by rfl,by intro w hSw;(try dsimp only at hSw);go_simp<;>with_reducible rfl⟩) ?_
 try simp only [Array.reduceGetElem,zs]
 refine tkM 1 rfl (by kernel_rfl) hHeld (Or.inl ⟨by rfl,by intro w hSw;(try dsimp only at hSw);go_simp<;>with_reducible rfl⟩) ?_
 try simp only [Array.reduceGetElem,zs]
 refine tkM 2 rfl (by kernel_rfl) hHeld (Or.inl ⟨by rfl,by intro w hSw;(try dsimp only at hSw);go_simp<;>with_reducible rfl⟩) ?_
 try simp only [Array.reduceGetElem,zs]
 refine tkM 3 rfl (by kernel_rfl) hHeld (Or.inl ⟨by rfl,by intro w hSw;(try dsimp only at hSw);go_simp<;>with_reducible rfl⟩) ?_
 try simp only [Array.reduceGetElem,zs]
 refine tkM 4 rfl (by kernel_rfl) hHeld (Or.inl ⟨by rfl,by intro w hSw;(try dsimp only at hSw);go_simp<;>with_reducible rfl⟩) ?_
 try simp only [Array.reduceGetElem,zs]
 refine tkM 5 rfl (by kernel_rfl) hHeld (Or.inl ⟨by rfl,by intro w hSw;(try dsimp only at hSw);go_simp<;>with_reducible rfl⟩) ?_
 try simp only [Array.reduceGetElem,zs]
 refine wpAnyM_ready (rs:=[6]) (by kernel_rfl) (by simp) ?_
 refine AllReadyM.cons rfl (fun K hK=>?_) AllReadyM.nil
 rw [if_pos (by rfl)]
 refine H.out.o_lit1 rfl Tryz.underlying54 iAg2_ rfl rfl (by decide) (by decide) rfl rfl (fun wl Cl H2=>?_)
 refine hK.out _ _ ?_ (fun hHeld2=>?_)
 ·exact ⟨H2.cell (i:=iq+3) (hQ _) rfl,H2.cell (i:=ia+3) (hA _) (hus _),H2.cell (i:=1) rfl rfl,H2.cell (i:=1) rfl rfl,H2.cell (i:=1) rfl rfl⟩
 clear hK K hHeld
 have hHeld:=hHeld2
 clear hHeld2
 clear H
 have H:=Lib.hid H2
 clear H2
 try simp only [Array.reduceGetElem,zs]
 refine wpAnyM_ready (rs:=[7]) (by kernel_rfl) (by simp) ?_
 refine AllReadyM.cons rfl (fun K hK=>?_) AllReadyM.nil
 rw [if_pos (by rfl)]
 refine H.out.o_append (r:=aggD (([109,105,110],[],(nameP (wantP [97,115] (wantP [41] (wantP [40] s1)))).1))) rfl Tryz.underlying54 iAg_ rfl (by decide) (by decide) 0 rfl rfl rfl rfl rfl 0 rfl rfl (row_agg _) (by show (acc.map aggD).length+1≤1000000;rw [List.length_map];omega) (fun wl ao cap _ H2=>?_)
 refine hK.out _ _ ?_ (fun hHeld2=>?_)
 ·exact ⟨H2.cell (i:=iq+3) (hQ _) rfl,H2.cell (i:=ia+3) (hA _) (hus _),H2.cell (i:=1) rfl rfl,H2.cell (i:=1) rfl rfl,H2.cell (i:=1) rfl rfl⟩
 clear hK K hHeld
 have hHeld:=hHeld2
 clear hHeld2
 clear H
 have H:=Lib.hid H2
 clear H2
 try simp only [Array.reduceGetElem,zs]
 refine tkP 8 rfl (by kernel_rfl) hHeld (Or.inl ⟨by rfl,by intro w hSw;clear hSw;go_simp<;>with_reducible rfl⟩) ?_
 try simp only [Array.reduceGetElem,zs]
 refine tkM 9 rfl (by kernel_rfl) hHeld (Or.inl ⟨by rfl,by intro w hSw;(try dsimp only at hSw);go_simp<;>with_reducible rfl⟩) ?_
 try simp only [Array.reduceGetElem,zs]
 refine wpAnyM_ready (rs:=[10]) (by kernel_rfl) (by simp) ?_
 refine AllReadyM.last rfl (by kernel_rfl) (fun K hK=>?_) AllReadyM.nil
 rw [if_pos (by rfl)]
 refine H.out.o_store1 rfl rfl rfl (ia+3) (hA v) HL.out sSAg_ rfl (fun wl H2=>?_)
 refine hK.out _ _ ?_
 clear hK K
 clear H
 have H:=Lib.hid H2
 clear H2
 try simp only [Array.reduceGetElem,zs]
 refine wpAnyM_done (by kernel_rfl) ?_ _
 go_wp2_with fail
 go_end0
 have H3:=H.out.drop (L':=Lf (.slice ao ((acc.map aggD).length+1) cap)) (by
  have e:=hset v (.slice ao ((acc.map aggD).length+1) cap)
  rw [← e]
  exact .cons _ (.cons _ (.cons _ (List.Sublist.refl _))))
 have e1:(aggItem acc s).1.map aggD=acc.map aggD++[aggD (([109,105,110],[],(nameP (wantP [97,115] (wantP [41] (wantP [40] s1)))).1))]:=by
  rw [HI.out acc]
  rw [List.map_append];rfl
 exact ⟨rfl,by rw [HI.out acc] at HG ⊢;rw [List.length_append];exact HG.out,.slice ao ((acc.map aggD).length+1) cap,_,by rw [e1,HI.out acc];exact H3⟩
set_option maxRecDepth 100000 in
set_option maxHeartbeats 1600000 in
theorem group1_3f {w0:World} {B A C Q ia ic iq d:Nat} {us:Value→List Value} {Lf:Value→List Bx} {D:List (List Dat × List Value)} {O:List Ow} (hA:∀ v,(Lf v)[ia]?=some (A,us v)) (hus:∀ v,(us v)[13]?=some v) (hC:∀ v,(Lf v)[ic]?=some (C,[.pointer (some ⟨B,0,none⟩)])) (hset:∀ v v',(Lf v).set ia (A,(us v).set 13 v')=Lf v') (hQ:∀ v,(Lf v)[iq]?=some (Q,[.pointer (some ⟨A,0,none⟩)])) (w:World) (acc:List _) (s s1:Ps) (h1:oneP aggWords s=(3,s1)) (hb:isP (wantP [40] s1) [41]=false) (h:Gt 0 B d w0 Lf D O 67 3 aggD w acc s) :
 Calls Tryz.prog 145 #[.pointer (some ⟨C,0,none⟩),.pointer (some ⟨Q,0,none⟩)] w fun e w'=>e=.returned (.tuple #[])∧Gt 1 B d w0 Lf D O 67 3 aggD w' (aggItem acc s).1 (aggItem acc s).2:=by
 have HI:Hid (∀ acc,aggItem acc s=(acc++[([109,105,110],(nameP (wantP [40] s1)).1,(nameP (wantP [97,115] (wantP [41] (nameP (wantP [40] s1)).2))).1)],(nameP (wantP [97,115] (wantP [41] (nameP (wantP [40] s1)).2))).2)):=fun acc=>by
  unfold aggItem
  rw [h1]
  simp only
  rw [show aggCol (wantP [40] s1)=((nameP (wantP [40] s1)).1,(nameP (wantP [40] s1)).2) from by unfold aggCol;rw [hb];rfl]
  rfl
 have HO:Hid (∀ W v,PAt W B d s→OpsAt W B v aggWords→Calls Tryz.prog 90 #[.pointer (some ⟨B,0,none⟩),v] W (OneTo W B d (3,s1))):=fun W v hP hO=>by
  have:=one_any aggWords s v W B d (by decide) hP hO
  rw [h1] at this
  exact this
 have HIS:Hid (∀ W,PAt W B d (wantP [40] s1)→Calls Tryz.prog 107 #[.pointer (some ⟨B,0,none⟩),.string ⟨#[41]⟩] W fun e w'=>e=.returned (.bool false)∧Below W.heap.size W w'):=fun W hW=>is_any (wantP [40] s1) [41] false hb W B d hW
 clear h1 hb
 obtain ⟨hacc,v,cells,hs⟩:=h
 have hil:=hs.pat.il
 have htl:=hs.pat.tl
 have HG:Hid (acc.length+1≤(aggItem acc s).2.i+1):=by
  have:=(goes_aggItem acc s).i
  show acc.length+1≤(aggItem acc s).2.i+1
  omega
 have hacc2:acc.length≤20000:=by omega
 have H:=Lib.hid hs
 have hl:13 < (us v).length:=(List.getElem?_eq_some_iff.1 (hus v)).1
 have HL:=Lib.hid hl
 clear hs hacc hl
 go_enter Tryz.func145,Tryz.ntmps145
 go_wp2_with (first|(first|(refine St.w_load1 (ty:=112) H.out.st (by rfl) rfl rfl (ic+0) (hC v) rfl uPar_ ?_)|(refine St.w_load1 (ty:=112) H.out.st (by rfl) rfl rfl (ic+1) (hC v) rfl uPar_ ?_)|(refine St.w_load1 (ty:=112) H.out.st (by rfl) rfl rfl (ic+2) (hC v) rfl uPar_ ?_)|(refine St.w_load1 (ty:=112) H.out.st (by rfl) rfl rfl (ic+3) (hC v) rfl uPar_ ?_))|(refine Sr.w_lit H.out (by rfl) rfl Tryz.underlying48 iStr2_ [.string ⟨#[99,111,117,110,116]⟩,.string ⟨#[115,117,109]⟩,.string ⟨#[109,105,110]⟩,.string ⟨#[109,97,120]⟩] rfl rfl rfl (by decide) (by decide) (by decide) (all_k rfl) rfl ?_;intro wl Cl H2;replace H:=Lib.hid H2;clear H2)|(refine Sr.w_alloc (ty:=67) H.out (by rfl) rfl zAg_ rfl ?_;intro wn Cn H2;replace H:=Lib.hid H2;clear H2)|(go_at_call 90;(with_reducible (refine (HO.out _ (.slice (some ⟨_,0,none⟩) 4 4) H.out.pat (ops_box H.out (i:=1) rfl aggWords rfl rfl (by decide))).mono ?_));rintro e wc ⟨rfl,hK,hP⟩;have H2:=H.out.call hK hP;clear hK hP;replace H:=Lib.hid H2;clear H2)|(first|(go_at_call 94;(with_reducible (refine (want_any s1 [40] _ B d H.out.pat).mono ?_));rintro e wc ⟨rfl,hK,hP⟩;have H2:=H.out.call hK hP;clear hK hP;replace H:=Lib.hid H2;clear H2)|(go_at_call 94;(with_reducible (refine (want_any (nameP (wantP [40] s1)).2 [41] _ B d H.out.pat).mono ?_));rintro e wc ⟨rfl,hK,hP⟩;have H2:=H.out.call hK hP;clear hK hP;replace H:=Lib.hid H2;clear H2)|(go_at_call 94;(with_reducible (refine (want_any (wantP [41] (nameP (wantP [40] s1)).2) [97,115] _ B d H.out.pat).mono ?_));rintro e wc ⟨rfl,hK,hP⟩;have H2:=H.out.call hK hP;clear hK hP;replace H:=Lib.hid H2;clear H2))|(go_at_call 107;(with_reducible (refine (HIS.out _ H.out.pat).mono ?_));rintro e wc ⟨rfl,hb⟩;have H2:=H.out.below hb;clear hb;replace H:=Lib.hid H2;clear H2)|(first|(go_at_call 109;(with_reducible (refine (name_any (wantP [40] s1) _ B d H.out.pat).mono ?_));rintro e wc ⟨rfl,hK,hP⟩;have H2:=H.out.call hK hP;clear hK hP;replace H:=Lib.hid H2;clear H2)|(go_at_call 109;(with_reducible (refine (name_any (wantP [97,115] (wantP [41] (nameP (wantP [40] s1)).2)) _ B d H.out.pat).mono ?_));rintro e wc ⟨rfl,hK,hP⟩;have H2:=H.out.call hK hP;clear hK hP;replace H:=Lib.hid H2;clear H2))|(first|(refine Sr.w_store1 (ty:=9) H.out (by rfl) rfl rfl rfl 0 rfl (Nat.le_of_ble_eq_true rfl) sStr_ rfl ?_;intro wn H2;replace H:=Lib.hid H2;clear H2))|(refine St.w_load1 (ty:=9) H.out.st (by rfl) rfl rfl 1 rfl rfl uStr_ ?_))
 have H2:=H.out.drew
 clear H
 have H:=Lib.hid H2
 clear H2
 refine wp_region_M_drew 10 (S:=fun W=>(W.cell? ⟨Q,0,none⟩=some (.pointer (some ⟨A,0,none⟩))∧W.cell? ⟨A,13,none⟩=some v∧W.cell? ⟨Cn,0,none⟩=some (.string ⟨#[109,105,110]⟩)∧W.cell? ⟨Cn,1,none⟩=some (.string ⟨((nameP (wantP [40] s1)).1:Str).toArray⟩)∧W.cell? ⟨Cn,2,none⟩=some (.string ⟨(nameP (wantP [97,115] (wantP [41] (nameP (wantP [40] s1)).2))).1.toArray⟩))) (by kernel_rfl) (by exact ⟨H.out.cell (i:=iq+2) (hQ _) rfl,H.out.cell (i:=ia+2) (hA _) (hus _),H.out.cell (i:=0) rfl rfl,H.out.cell (i:=0) rfl rfl,H.out.cell (i:=0) rfl rfl⟩) (fun hHeld=>?_)
 refine tkM 0 rfl (by kernel_rfl) hHeld (Or.inl ⟨by rfl,by intro w hSw;(try dsimp only at hSw);go_simp<;>with_reducible rfl⟩) ?_
 try simp only [Array.reduceGetElem,zs]
 refine tkM 1 rfl (by kernel_rfl) hHeld (Or.inl ⟨by rfl,by intro w hSw;(try dsimp only at hSw);go_simp<;>with_reducible rfl⟩) ?_
 try simp only [Array.reduceGetElem,zs]
 refine tkM 2 rfl (by kernel_rfl) hHeld (Or.inl ⟨by rfl,by intro w hSw;(try dsimp only at hSw);go_simp<;>with_reducible rfl⟩) ?_
 try simp only [Array.reduceGetElem,zs]
 refine tkM 3 rfl (by kernel_rfl) hHeld (Or.inl ⟨by rfl,by intro w hSw;(try dsimp only at hSw);go_simp<;>with_reducible rfl⟩) ?_
 try simp only [Array.reduceGetElem,zs]
 refine tkM 4 rfl (by kernel_rfl) hHeld (Or.inl ⟨by rfl,by intro w hSw;(try dsimp only at hSw);go_simp<;>with_reducible rfl⟩) ?_
 try simp only [Array.reduceGetElem,zs]
 refine tkM 5 rfl (by kernel_rfl) hHeld (Or.inl ⟨by rfl,by intro w hSw;(try dsimp only at hSw);go_simp<;>with_reducible rfl⟩) ?_
 try simp only [Array.reduceGetElem,zs]
 refine wpAnyM_ready (rs:=[6]) (by kernel_rfl) (by simp) ?_
 refine AllReadyM.cons rfl (fun K hK=>?_) AllReadyM.nil
 rw [if_pos (by rfl)]
 refine H.out.o_lit1 rfl Tryz.underlying54 iAg2_ rfl rfl (by decide) (by decide) rfl rfl (fun wl Cl H2=>?_)
 refine hK.out _ _ ?_ (fun hHeld2=>?_)
 ·exact ⟨H2.cell (i:=iq+3) (hQ _) rfl,H2.cell (i:=ia+3) (hA _) (hus _),H2.cell (i:=1) rfl rfl,H2.cell (i:=1) rfl rfl,H2.cell (i:=1) rfl rfl⟩
 clear hK K hHeld
 have hHeld:=hHeld2
 clear hHeld2
 clear H
 have H:=Lib.hid H2
 clear H2
 try simp only [Array.reduceGetElem,zs]
 refine wpAnyM_ready (rs:=[7]) (by kernel_rfl) (by simp) ?_
 refine AllReadyM.cons rfl (fun K hK=>?_) AllReadyM.nil
 rw [if_pos (by rfl)]
 refine H.out.o_append (r:=aggD (([109,105,110],(nameP (wantP [40] s1)).1,(nameP (wantP [97,115] (wantP [41] (nameP (wantP [40] s1)).2))).1))) rfl Tryz.underlying54 iAg_ rfl (by decide) (by decide) 0 rfl rfl rfl rfl rfl 0 rfl rfl (row_agg _) (by show (acc.map aggD).length+1≤1000000;rw [List.length_map];omega) (fun wl ao cap _ H2=>?_)
 refine hK.out _ _ ?_ (fun hHeld2=>?_)
 ·exact ⟨H2.cell (i:=iq+3) (hQ _) rfl,H2.cell (i:=ia+3) (hA _) (hus _),H2.cell (i:=1) rfl rfl,H2.cell (i:=1) rfl rfl,H2.cell (i:=1) rfl rfl⟩
 clear hK K hHeld
 have hHeld:=hHeld2
 clear hHeld2
 clear H
 have H:=Lib.hid H2
 clear H2
 try simp only [Array.reduceGetElem,zs]
 refine tkP 8 rfl (by kernel_rfl) hHeld (Or.inl ⟨by rfl,by intro w hSw;clear hSw;go_simp<;>with_reducible rfl⟩) ?_
 try simp only [Array.reduceGetElem,zs]
 refine tkM 9 rfl (by kernel_rfl) hHeld (Or.inl ⟨by rfl,by intro w hSw;(try dsimp only at hSw);go_simp<;>with_reducible rfl⟩) ?_
 try simp only [Array.reduceGetElem,zs]
 refine wpAnyM_ready (rs:=[10]) (by kernel_rfl) (by simp) ?_
 refine AllReadyM.last rfl (by kernel_rfl) (fun K hK=>?_) AllReadyM.nil
 rw [if_pos (by rfl)]
 refine H.out.o_store1 rfl rfl rfl (ia+3) (hA v) HL.out sSAg_ rfl (fun wl H2=>?_)
 refine hK.out _ _ ?_
 clear hK K
 clear H
 have H:=Lib.hid H2
 clear H2
 try simp only [Array.reduceGetElem,zs]
 refine wpAnyM_done (by kernel_rfl) ?_ _
 go_wp2_with fail
 go_end0
 have H3:=H.out.drop (L':=Lf (.slice ao ((acc.map aggD).length+1) cap)) (by
  have e:=hset v (.slice ao ((acc.map aggD).length+1) cap)
  rw [← e]
  exact .cons _ (.cons _ (.cons _ (List.Sublist.refl _))))
 have e1:(aggItem acc s).1.map aggD=acc.map aggD++[aggD (([109,105,110],(nameP (wantP [40] s1)).1,(nameP (wantP [97,115] (wantP [41] (nameP (wantP [40] s1)).2))).1))]:=by
  rw [HI.out acc]
  rw [List.map_append];rfl
 exact ⟨rfl,by rw [HI.out acc] at HG ⊢;rw [List.length_append];exact HG.out,.slice ao ((acc.map aggD).length+1) cap,_,by rw [e1,HI.out acc];exact H3⟩
set_option maxRecDepth 100000 in
set_option maxHeartbeats 1600000 in
theorem group1_4t {w0:World} {B A C Q ia ic iq d:Nat} {us:Value→List Value} {Lf:Value→List Bx} {D:List (List Dat × List Value)} {O:List Ow} (hA:∀ v,(Lf v)[ia]?=some (A,us v)) (hus:∀ v,(us v)[13]?=some v) (hC:∀ v,(Lf v)[ic]?=some (C,[.pointer (some ⟨B,0,none⟩)])) (hset:∀ v v',(Lf v).set ia (A,(us v).set 13 v')=Lf v') (hQ:∀ v,(Lf v)[iq]?=some (Q,[.pointer (some ⟨A,0,none⟩)])) (w:World) (acc:List _) (s s1:Ps) (h1:oneP aggWords s=(4,s1)) (hb:isP (wantP [40] s1) [41]=true) (h:Gt 0 B d w0 Lf D O 67 3 aggD w acc s) :
 Calls Tryz.prog 145 #[.pointer (some ⟨C,0,none⟩),.pointer (some ⟨Q,0,none⟩)] w fun e w'=>e=.returned (.tuple #[])∧Gt 1 B d w0 Lf D O 67 3 aggD w' (aggItem acc s).1 (aggItem acc s).2:=by
 have HI:Hid (∀ acc,aggItem acc s=(acc++[([109,97,120],[],(nameP (wantP [97,115] (wantP [41] (wantP [40] s1)))).1)],(nameP (wantP [97,115] (wantP [41] (wantP [40] s1)))).2)):=fun acc=>by
  unfold aggItem
  rw [h1]
  simp only
  rw [show aggCol (wantP [40] s1)=([],(wantP [40] s1)) from by unfold aggCol;rw [hb];rfl]
  rfl
 have HO:Hid (∀ W v,PAt W B d s→OpsAt W B v aggWords→Calls Tryz.prog 90 #[.pointer (some ⟨B,0,none⟩),v] W (OneTo W B d (4,s1))):=fun W v hP hO=>by
  have:=one_any aggWords s v W B d (by decide) hP hO
  rw [h1] at this
  exact this
 have HIS:Hid (∀ W,PAt W B d (wantP [40] s1)→Calls Tryz.prog 107 #[.pointer (some ⟨B,0,none⟩),.string ⟨#[41]⟩] W fun e w'=>e=.returned (.bool true)∧Below W.heap.size W w'):=fun W hW=>is_any (wantP [40] s1) [41] true hb W B d hW
 clear h1 hb
 obtain ⟨hacc,v,cells,hs⟩:=h
 have hil:=hs.pat.il
 have htl:=hs.pat.tl
 have HG:Hid (acc.length+1≤(aggItem acc s).2.i+1):=by
  have:=(goes_aggItem acc s).i
  show acc.length+1≤(aggItem acc s).2.i+1
  omega
 have hacc2:acc.length≤20000:=by omega
 have H:=Lib.hid hs
 have hl:13 < (us v).length:=(List.getElem?_eq_some_iff.1 (hus v)).1
 have HL:=Lib.hid hl
 clear hs hacc hl
 go_enter Tryz.func145,Tryz.ntmps145
 go_wp2_with (first|(first|(refine St.w_load1 (ty:=112) H.out.st (by rfl) rfl rfl (ic+0) (hC v) rfl uPar_ ?_)|(refine St.w_load1 (ty:=112) H.out.st (by rfl) rfl rfl (ic+1) (hC v) rfl uPar_ ?_)|(refine St.w_load1 (ty:=112) H.out.st (by rfl) rfl rfl (ic+2) (hC v) rfl uPar_ ?_)|(refine St.w_load1 (ty:=112) H.out.st (by rfl) rfl rfl (ic+3) (hC v) rfl uPar_ ?_))|(refine Sr.w_lit H.out (by rfl) rfl Tryz.underlying48 iStr2_ [.string ⟨#[99,111,117,110,116]⟩,.string ⟨#[115,117,109]⟩,.string ⟨#[109,105,110]⟩,.string ⟨#[109,97,120]⟩] rfl rfl rfl (by decide) (by decide) (by decide) (all_k rfl) rfl ?_;intro wl Cl H2;replace H:=Lib.hid H2;clear H2)|(refine Sr.w_alloc (ty:=67) H.out (by rfl) rfl zAg_ rfl ?_;intro wn Cn H2;replace H:=Lib.hid H2;clear H2)|(go_at_call 90;(with_reducible (refine (HO.out _ (.slice (some ⟨_,0,none⟩) 4 4) H.out.pat (ops_box H.out (i:=1) rfl aggWords rfl rfl (by decide))).mono ?_));rintro e wc ⟨rfl,hK,hP⟩;have H2:=H.out.call hK hP;clear hK hP;replace H:=Lib.hid H2;clear H2)|(first|(go_at_call 94;(with_reducible (refine (want_any s1 [40] _ B d H.out.pat).mono ?_));rintro e wc ⟨rfl,hK,hP⟩;have H2:=H.out.call hK hP;clear hK hP;replace H:=Lib.hid H2;clear H2)|(go_at_call 94;(with_reducible (refine (want_any (wantP [40] s1) [41] _ B d H.out.pat).mono ?_));rintro e wc ⟨rfl,hK,hP⟩;have H2:=H.out.call hK hP;clear hK hP;replace H:=Lib.hid H2;clear H2)|(go_at_call 94;(with_reducible (refine (want_any (wantP [41] (wantP [40] s1)) [97,115] _ B d H.out.pat).mono ?_));rintro e wc ⟨rfl,hK,hP⟩;have H2:=H.out.call hK hP;clear hK hP;replace H:=Lib.hid H2;clear H2))|(go_at_call 107;(with_reducible (refine (HIS.out _ H.out.pat).mono ?_));rintro e wc ⟨rfl,hb⟩;have H2:=H.out.below hb;clear hb;replace H:=Lib.hid H2;clear H2)|(go_at_call 109;(with_reducible (refine (name_any (wantP [97,115] (wantP [41] (wantP [40] s1))) _ B d H.out.pat).mono ?_));rintro e wc ⟨rfl,hK,hP⟩;have H2:=H.out.call hK hP;clear hK hP;replace H:=Lib.hid H2;clear H2)|(first|(refine Sr.w_store1 (ty:=9) H.out (by rfl) rfl rfl rfl 0 rfl (Nat.le_of_ble_eq_true rfl) sStr_ rfl ?_;intro wn H2;replace H:=Lib.hid H2;clear H2))|(refine St.w_load1 (ty:=9) H.out.st (by rfl) rfl rfl 1 rfl rfl uStr_ ?_))
 have H2:=H.out.drew
 clear H
 have H:=Lib.hid H2
 clear H2
 refine wp_region_M_drew 10 (S:=fun W=>(W.cell? ⟨Q,0,none⟩=some (.pointer (some ⟨A,0,none⟩))∧W.cell? ⟨A,13,none⟩=some v∧W.cell? ⟨Cn,0,none⟩=some (.string ⟨#[109,97,120]⟩)∧W.cell? ⟨Cn,1,none⟩=some (.string ⟨#[]⟩)∧W.cell? ⟨Cn,2,none⟩=some (.string ⟨(nameP (wantP [97,115] (wantP [41] (wantP [40] s1)))).1.toArray⟩))) (by kernel_rfl) (by exact ⟨H.out.cell (i:=iq+2) (hQ _) rfl,H.out.cell (i:=ia+2) (hA _) (hus _),H.out.cell (i:=0) rfl rfl,H.out.cell (i:=0) rfl rfl,H.out.cell (i:=0) rfl rfl⟩) (fun hHeld=>?_)
 refine tkM 0 rfl (by kernel_rfl) hHeld (Or.inl ⟨by rfl,by intro w hSw;(try dsimp only at hSw);go_simp<;>with_reducible rfl⟩) ?_
 try simp only [Array.reduceGetElem,zs]
 refine tkM 1 rfl (by kernel_rfl) hHeld (Or.inl ⟨by rfl,by intro w hSw;(try dsimp only at hSw);go_simp<;>with_reducible rfl⟩) ?_
 try simp only [Array.reduceGetElem,zs]
 refine tkM 2 rfl (by kernel_rfl) hHeld (Or.inl ⟨by rfl,by intro w hSw;(try dsimp only at hSw);go_simp<;>with_reducible rfl⟩) ?_
 try simp only [Array.reduceGetElem,zs]
 refine tkM 3 rfl (by kernel_rfl) hHeld (Or.inl ⟨by rfl,by intro w hSw;(try dsimp only at hSw);go_simp<;>with_reducible rfl⟩) ?_
 try simp only [Array.reduceGetElem,zs]
 refine tkM 4 rfl (by kernel_rfl) hHeld (Or.inl ⟨by rfl,by intro w hSw;(try dsimp only at hSw);go_simp<;>with_reducible rfl⟩) ?_
 try simp only [Array.reduceGetElem,zs]
 refine tkM 5 rfl (by kernel_rfl) hHeld (Or.inl ⟨by rfl,by intro w hSw;(try dsimp only at hSw);go_simp<;>with_reducible rfl⟩) ?_
 try simp only [Array.reduceGetElem,zs]
 refine wpAnyM_ready (rs:=[6]) (by kernel_rfl) (by simp) ?_
 refine AllReadyM.cons rfl (fun K hK=>?_) AllReadyM.nil
 rw [if_pos (by rfl)]
 refine H.out.o_lit1 rfl Tryz.underlying54 iAg2_ rfl rfl (by decide) (by decide) rfl rfl (fun wl Cl H2=>?_)
 refine hK.out _ _ ?_ (fun hHeld2=>?_)
 ·exact ⟨H2.cell (i:=iq+3) (hQ _) rfl,H2.cell (i:=ia+3) (hA _) (hus _),H2.cell (i:=1) rfl rfl,H2.cell (i:=1) rfl rfl,H2.cell (i:=1) rfl rfl⟩
 clear hK K hHeld
 have hHeld:=hHeld2
 clear hHeld2
 clear H
 have H:=Lib.hid H2
 clear H2
 try simp only [Array.reduceGetElem,zs]
 refine wpAnyM_ready (rs:=[7]) (by kernel_rfl) (by simp) ?_
 refine AllReadyM.cons rfl (fun K hK=>?_) AllReadyM.nil
 rw [if_pos (by rfl)]
 refine H.out.o_append (r:=aggD (([109,97,120],[],(nameP (wantP [97,115] (wantP [41] (wantP [40] s1)))).1))) rfl Tryz.underlying54 iAg_ rfl (by decide) (by decide) 0 rfl rfl rfl rfl rfl 0 rfl rfl (row_agg _) (by show (acc.map aggD).length+1≤1000000;rw [List.length_map];omega) (fun wl ao cap _ H2=>?_)
 refine hK.out _ _ ?_ (fun hHeld2=>?_)
 ·exact ⟨H2.cell (i:=iq+3) (hQ _) rfl,H2.cell (i:=ia+3) (hA _) (hus _),H2.cell (i:=1) rfl rfl,H2.cell (i:=1) rfl rfl,H2.cell (i:=1) rfl rfl⟩
 clear hK K hHeld
 have hHeld:=hHeld2
 clear hHeld2
 clear H
 have H:=Lib.hid H2
 clear H2
 try simp only [Array.reduceGetElem,zs]
 refine tkP 8 rfl (by kernel_rfl) hHeld (Or.inl ⟨by rfl,by intro w hSw;clear hSw;go_simp<;>with_reducible rfl⟩) ?_
 try simp only [Array.reduceGetElem,zs]
 refine tkM 9 rfl (by kernel_rfl) hHeld (Or.inl ⟨by rfl,by intro w hSw;(try dsimp only at hSw);go_simp<;>with_reducible rfl⟩) ?_
 try simp only [Array.reduceGetElem,zs]
 refine wpAnyM_ready (rs:=[10]) (by kernel_rfl) (by simp) ?_
 refine AllReadyM.last rfl (by kernel_rfl) (fun K hK=>?_) AllReadyM.nil
 rw [if_pos (by rfl)]
 refine H.out.o_store1 rfl rfl rfl (ia+3) (hA v) HL.out sSAg_ rfl (fun wl H2=>?_)
 refine hK.out _ _ ?_
 clear hK K
 clear H
 have H:=Lib.hid H2
 clear H2
 try simp only [Array.reduceGetElem,zs]
 refine wpAnyM_done (by kernel_rfl) ?_ _
 go_wp2_with fail
 go_end0
 have H3:=H.out.drop (L':=Lf (.slice ao ((acc.map aggD).length+1) cap)) (by
  have e:=hset v (.slice ao ((acc.map aggD).length+1) cap)
  rw [← e]
  exact .cons _ (.cons _ (.cons _ (List.Sublist.refl _))))
 have e1:(aggItem acc s).1.map aggD=acc.map aggD++[aggD (([109,97,120],[],(nameP (wantP [97,115] (wantP [41] (wantP [40] s1)))).1))]:=by
  rw [HI.out acc]
  rw [List.map_append];rfl
 exact ⟨rfl,by rw [HI.out acc] at HG ⊢;rw [List.length_append];exact HG.out,.slice ao ((acc.map aggD).length+1) cap,_,by rw [e1,HI.out acc];exact H3⟩
set_option maxRecDepth 100000 in
set_option maxHeartbeats 1600000 in
theorem group1_4f {w0:World} {B A C Q ia ic iq d:Nat} {us:Value→List Value} {Lf:Value→List Bx} {D:List (List Dat × List Value)} {O:List Ow} (hA:∀ v,(Lf v)[ia]?=some (A,us v)) (hus:∀ v,(us v)[13]?=some v) (hC:∀ v,(Lf v)[ic]?=some (C,[.pointer (some ⟨B,0,none⟩)])) (hset:∀ v v',(Lf v).set ia (A,(us v).set 13 v')=Lf v') (hQ:∀ v,(Lf v)[iq]?=some (Q,[.pointer (some ⟨A,0,none⟩)])) (w:World) (acc:List _) (s s1:Ps) (h1:oneP aggWords s=(4,s1)) (hb:isP (wantP [40] s1) [41]=false) (h:Gt 0 B d w0 Lf D O 67 3 aggD w acc s) :
 Calls Tryz.prog 145 #[.pointer (some ⟨C,0,none⟩),.pointer (some ⟨Q,0,none⟩)] w fun e w'=>e=.returned (.tuple #[])∧Gt 1 B d w0 Lf D O 67 3 aggD w' (aggItem acc s).1 (aggItem acc s).2:=by
 have HI:Hid (∀ acc,aggItem acc s=(acc++[([109,97,120],(nameP (wantP [40] s1)).1,(nameP (wantP [97,115] (wantP [41] (nameP (wantP [40] s1)).2))).1)],(nameP (wantP [97,115] (wantP [41] (nameP (wantP [40] s1)).2))).2)):=fun acc=>by
  unfold aggItem
  rw [h1]
  simp only
  rw [show aggCol (wantP [40] s1)=((nameP (wantP [40] s1)).1,(nameP (wantP [40] s1)).2) from by unfold aggCol;rw [hb];rfl]
  rfl
 have HO:Hid (∀ W v,PAt W B d s→OpsAt W B v aggWords→Calls Tryz.prog 90 #[.pointer (some ⟨B,0,none⟩),v] W (OneTo W B d (4,s1))):=fun W v hP hO=>by
  have:=one_any aggWords s v W B d (by decide) hP hO
  rw [h1] at this
  exact this
 have HIS:Hid (∀ W,PAt W B d (wantP [40] s1)→Calls Tryz.prog 107 #[.pointer (some ⟨B,0,none⟩),.string ⟨#[41]⟩] W fun e w'=>e=.returned (.bool false)∧Below W.heap.size W w'):=fun W hW=>is_any (wantP [40] s1) [41] false hb W B d hW
 clear h1 hb
 obtain ⟨hacc,v,cells,hs⟩:=h
 have hil:=hs.pat.il
 have htl:=hs.pat.tl
 have HG:Hid (acc.length+1≤(aggItem acc s).2.i+1):=by
  have:=(goes_aggItem acc s).i
  show acc.length+1≤(aggItem acc s).2.i+1
  omega
 have hacc2:acc.length≤20000:=by omega
 have H:=Lib.hid hs
 have hl:13 < (us v).length:=(List.getElem?_eq_some_iff.1 (hus v)).1
 have HL:=Lib.hid hl
 clear hs hacc hl
 go_enter Tryz.func145,Tryz.ntmps145
 go_wp2_with (first|(first|(refine St.w_load1 (ty:=112) H.out.st (by rfl) rfl rfl (ic+0) (hC v) rfl uPar_ ?_)|(refine St.w_load1 (ty:=112) H.out.st (by rfl) rfl rfl (ic+1) (hC v) rfl uPar_ ?_)|(refine St.w_load1 (ty:=112) H.out.st (by rfl) rfl rfl (ic+2) (hC v) rfl uPar_ ?_)|(refine St.w_load1 (ty:=112) H.out.st (by rfl) rfl rfl (ic+3) (hC v) rfl uPar_ ?_))|(refine Sr.w_lit H.out (by rfl) rfl Tryz.underlying48 iStr2_ [.string ⟨#[99,111,117,110,116]⟩,.string ⟨#[115,117,109]⟩,.string ⟨#[109,105,110]⟩,.string ⟨#[109,97,120]⟩] rfl rfl rfl (by decide) (by decide) (by decide) (all_k rfl) rfl ?_;intro wl Cl H2;replace H:=Lib.hid H2;clear H2)|(refine Sr.w_alloc (ty:=67) H.out (by rfl) rfl zAg_ rfl ?_;intro wn Cn H2;replace H:=Lib.hid H2;clear H2)|(go_at_call 90;(with_reducible (refine (HO.out _ (.slice (some ⟨_,0,none⟩) 4 4) H.out.pat (ops_box H.out (i:=1) rfl aggWords rfl rfl (by decide))).mono ?_));rintro e wc ⟨rfl,hK,hP⟩;have H2:=H.out.call hK hP;clear hK hP;replace H:=Lib.hid H2;clear H2)|(first|(go_at_call 94;(with_reducible (refine (want_any s1 [40] _ B d H.out.pat).mono ?_));rintro e wc ⟨rfl,hK,hP⟩;have H2:=H.out.call hK hP;clear hK hP;replace H:=Lib.hid H2;clear H2)|(go_at_call 94;(with_reducible (refine (want_any (nameP (wantP [40] s1)).2 [41] _ B d H.out.pat).mono ?_));rintro e wc ⟨rfl,hK,hP⟩;have H2:=H.out.call hK hP;clear hK hP;replace H:=Lib.hid H2;clear H2)|(go_at_call 94;(with_reducible (refine (want_any (wantP [41] (nameP (wantP [40] s1)).2) [97,115] _ B d H.out.pat).mono ?_));rintro e wc ⟨rfl,hK,hP⟩;have H2:=H.out.call hK hP;clear hK hP;replace H:=Lib.hid H2;clear H2))|(go_at_call 107;(with_reducible (refine (HIS.out _ H.out.pat).mono ?_));rintro e wc ⟨rfl,hb⟩;have H2:=H.out.below hb;clear hb;replace H:=Lib.hid H2;clear H2)|(first|(go_at_call 109;(with_reducible (refine (name_any (wantP [40] s1) _ B d H.out.pat).mono ?_));rintro e wc ⟨rfl,hK,hP⟩;have H2:=H.out.call hK hP;clear hK hP;replace H:=Lib.hid H2;clear H2)|(go_at_call 109;(with_reducible (refine (name_any (wantP [97,115] (wantP [41] (nameP (wantP [40] s1)).2)) _ B d H.out.pat).mono ?_));rintro e wc ⟨rfl,hK,hP⟩;have H2:=H.out.call hK hP;clear hK hP;replace H:=Lib.hid H2;clear H2))|(first|(refine Sr.w_store1 (ty:=9) H.out (by rfl) rfl rfl rfl 0 rfl (Nat.le_of_ble_eq_true rfl) sStr_ rfl ?_;intro wn H2;replace H:=Lib.hid H2;clear H2))|(refine St.w_load1 (ty:=9) H.out.st (by rfl) rfl rfl 1 rfl rfl uStr_ ?_))
 have H2:=H.out.drew
 clear H
 have H:=Lib.hid H2
 clear H2
 refine wp_region_M_drew 10 (S:=fun W=>(W.cell? ⟨Q,0,none⟩=some (.pointer (some ⟨A,0,none⟩))∧W.cell? ⟨A,13,none⟩=some v∧W.cell? ⟨Cn,0,none⟩=some (.string ⟨#[109,97,120]⟩)∧W.cell? ⟨Cn,1,none⟩=some (.string ⟨((nameP (wantP [40] s1)).1:Str).toArray⟩)∧W.cell? ⟨Cn,2,none⟩=some (.string ⟨(nameP (wantP [97,115] (wantP [41] (nameP (wantP [40] s1)).2))).1.toArray⟩))) (by kernel_rfl) (by exact ⟨H.out.cell (i:=iq+2) (hQ _) rfl,H.out.cell (i:=ia+2) (hA _) (hus _),H.out.cell (i:=0) rfl rfl,H.out.cell (i:=0) rfl rfl,H.out.cell (i:=0) rfl rfl⟩) (fun hHeld=>?_)
 refine tkM 0 rfl (by kernel_rfl) hHeld (Or.inl ⟨by rfl,by intro w hSw;(try dsimp only at hSw);go_simp<;>with_reducible rfl⟩) ?_
 try simp only [Array.reduceGetElem,zs]
 refine tkM 1 rfl (by kernel_rfl) hHeld (Or.inl ⟨by rfl,by intro w hSw;(try dsimp only at hSw);go_simp<;>with_reducible rfl⟩) ?_
 try simp only [Array.reduceGetElem,zs]
 refine tkM 2 rfl (by kernel_rfl) hHeld (Or.inl ⟨by rfl,by intro w hSw;(try dsimp only at hSw);go_simp<;>with_reducible rfl⟩) ?_
 try simp only [Array.reduceGetElem,zs]
 refine tkM 3 rfl (by kernel_rfl) hHeld (Or.inl ⟨by rfl,by intro w hSw;(try dsimp only at hSw);go_simp<;>with_reducible rfl⟩) ?_
 try simp only [Array.reduceGetElem,zs]
 refine tkM 4 rfl (by kernel_rfl) hHeld (Or.inl ⟨by rfl,by intro w hSw;(try dsimp only at hSw);go_simp<;>with_reducible rfl⟩) ?_
 try simp only [Array.reduceGetElem,zs]
 refine tkM 5 rfl (by kernel_rfl) hHeld (Or.inl ⟨by rfl,by intro w hSw;(try dsimp only at hSw);go_simp<;>with_reducible rfl⟩) ?_
 try simp only [Array.reduceGetElem,zs]
 refine wpAnyM_ready (rs:=[6]) (by kernel_rfl) (by simp) ?_
 refine AllReadyM.cons rfl (fun K hK=>?_) AllReadyM.nil
 rw [if_pos (by rfl)]
 refine H.out.o_lit1 rfl Tryz.underlying54 iAg2_ rfl rfl (by decide) (by decide) rfl rfl (fun wl Cl H2=>?_)
 refine hK.out _ _ ?_ (fun hHeld2=>?_)
 ·exact ⟨H2.cell (i:=iq+3) (hQ _) rfl,H2.cell (i:=ia+3) (hA _) (hus _),H2.cell (i:=1) rfl rfl,H2.cell (i:=1) rfl rfl,H2.cell (i:=1) rfl rfl⟩
 clear hK K hHeld
 have hHeld:=hHeld2
 clear hHeld2
 clear H
 have H:=Lib.hid H2
 clear H2
 try simp only [Array.reduceGetElem,zs]
 refine wpAnyM_ready (rs:=[7]) (by kernel_rfl) (by simp) ?_
 refine AllReadyM.cons rfl (fun K hK=>?_) AllReadyM.nil
 rw [if_pos (by rfl)]
 refine H.out.o_append (r:=aggD (([109,97,120],(nameP (wantP [40] s1)).1,(nameP (wantP [97,115] (wantP [41] (nameP (wantP [40] s1)).2))).1))) rfl Tryz.underlying54 iAg_ rfl (by decide) (by decide) 0 rfl rfl rfl rfl rfl 0 rfl rfl (row_agg _) (by show (acc.map aggD).length+1≤1000000;rw [List.length_map];omega) (fun wl ao cap _ H2=>?_)
 refine hK.out _ _ ?_ (fun hHeld2=>?_)
 ·exact ⟨H2.cell (i:=iq+3) (hQ _) rfl,H2.cell (i:=ia+3) (hA _) (hus _),H2.cell (i:=1) rfl rfl,H2.cell (i:=1) rfl rfl,H2.cell (i:=1) rfl rfl⟩
 clear hK K hHeld
 have hHeld:=hHeld2
 clear hHeld2
 clear H
 have H:=Lib.hid H2
 clear H2
 try simp only [Array.reduceGetElem,zs]
 refine tkP 8 rfl (by kernel_rfl) hHeld (Or.inl ⟨by rfl,by intro w hSw;clear hSw;go_simp<;>with_reducible rfl⟩) ?_
 try simp only [Array.reduceGetElem,zs]
 refine tkM 9 rfl (by kernel_rfl) hHeld (Or.inl ⟨by rfl,by intro w hSw;(try dsimp only at hSw);go_simp<;>with_reducible rfl⟩) ?_
 try simp only [Array.reduceGetElem,zs]
 refine wpAnyM_ready (rs:=[10]) (by kernel_rfl) (by simp) ?_
 refine AllReadyM.last rfl (by kernel_rfl) (fun K hK=>?_) AllReadyM.nil
 rw [if_pos (by rfl)]
 refine H.out.o_store1 rfl rfl rfl (ia+3) (hA v) HL.out sSAg_ rfl (fun wl H2=>?_)
 refine hK.out _ _ ?_
 clear hK K
 clear H
 have H:=Lib.hid H2
 clear H2
 try simp only [Array.reduceGetElem,zs]
 refine wpAnyM_done (by kernel_rfl) ?_ _
 go_wp2_with fail
 go_end0
 have H3:=H.out.drop (L':=Lf (.slice ao ((acc.map aggD).length+1) cap)) (by
  have e:=hset v (.slice ao ((acc.map aggD).length+1) cap)
  rw [← e]
  exact .cons _ (.cons _ (.cons _ (List.Sublist.refl _))))
 have e1:(aggItem acc s).1.map aggD=acc.map aggD++[aggD (([109,97,120],(nameP (wantP [40] s1)).1,(nameP (wantP [97,115] (wantP [41] (nameP (wantP [40] s1)).2))).1))]:=by
  rw [HI.out acc]
  rw [List.map_append];rfl
 exact ⟨rfl,by rw [HI.out acc] at HG ⊢;rw [List.length_append];exact HG.out,.slice ao ((acc.map aggD).length+1) cap,_,by rw [e1,HI.out acc];exact H3⟩
theorem group1_any {w0:World} {B A C Q ia ic iq d:Nat} {us:Value→List Value} {Lf:Value→List Bx} {D:List (List Dat × List Value)} {O:List Ow} (hA:∀ v,(Lf v)[ia]?=some (A,us v)) (hus:∀ v,(us v)[13]?=some v) (hC:∀ v,(Lf v)[ic]?=some (C,[.pointer (some ⟨B,0,none⟩)])) (hset:∀ v v',(Lf v).set ia (A,(us v).set 13 v')=Lf v') (hQ:∀ v,(Lf v)[iq]?=some (Q,[.pointer (some ⟨A,0,none⟩)])) (w:World) (acc:List _) (s:Ps) (h:Gt 0 B d w0 Lf D O 67 3 aggD w acc s) :
 Calls Tryz.prog 145 #[.pointer (some ⟨C,0,none⟩),.pointer (some ⟨Q,0,none⟩)] w fun e w'=>e=.returned (.tuple #[])∧Gt 1 B d w0 Lf D O 67 3 aggD w' (aggItem acc s).1 (aggItem acc s).2:=by
 have hk:(oneP aggWords s).1≤4:=by
  unfold oneP
  rw [oneFrom_is]
  cases hf:firstOp aggWords s with
  | none=>exact Nat.zero_le _
  | some k =>
   have:=(firstOp_some hf).1
   have e:aggWords.length=4:=rfl
   show 1+k≤4
   omega
 obtain ⟨⟨n,s1⟩,h1⟩:∃ r,oneP aggWords s=r:=⟨_,rfl⟩
 rw [h1] at hk
 change n≤4 at hk
 cases hb:isP (wantP [40] s1) [41] with
 | true =>
  match n,hk with
  | 0,_=>exact group1_0t hA hus hC hset hQ w acc s s1 h1 hb h
  | 1,_=>exact group1_1t hA hus hC hset hQ w acc s s1 h1 hb h
  | 2,_=>exact group1_2t hA hus hC hset hQ w acc s s1 h1 hb h
  | 3,_=>exact group1_3t hA hus hC hset hQ w acc s s1 h1 hb h
  | 4,_=>exact group1_4t hA hus hC hset hQ w acc s s1 h1 hb h
  | n+5,hk=>omega
 | false =>
  match n,hk with
  | 0,_=>exact group1_0f hA hus hC hset hQ w acc s s1 h1 hb h
  | 1,_=>exact group1_1f hA hus hC hset hQ w acc s s1 h1 hb h
  | 2,_=>exact group1_2f hA hus hC hset hQ w acc s s1 h1 hb h
  | 3,_=>exact group1_3f hA hus hC hset hQ w acc s s1 h1 hb h
  | 4,_=>exact group1_4f hA hus hC hset hQ w acc s s1 h1 hb h
  | n+5,hk=>omega
end Go.Proofs.YtonkjhmkppeagaaGreatDoor.Pz
