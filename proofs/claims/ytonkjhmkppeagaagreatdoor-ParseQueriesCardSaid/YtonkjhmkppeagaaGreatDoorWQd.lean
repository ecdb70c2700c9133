/- Walks: what a keep gathers. Walks: a part of a query; what first, group and join put into a plan. -/
import Derived.Test.YtonkjhmkppeagaaGreatDoorWQb
set_option maxRecDepth 100000
set_option maxHeartbeats 1600000
set_option linter.unusedVariables false
set_option linter.unusedSimpArgs false
namespace Go.Proofs.YtonkjhmkppeagaaGreatDoor.Pz
open Go.Proofs.Tryz
open Go.Lib (hid)
open Go.RowKit Go Go.Sort Ba Lx
theorem iEx_:(Tryz.prog.info? 27).map (fun i=>(i.zero,i.size,i.bytes))=some (some (.agg zzA),7,96):=by kernel_rfl
theorem iEx2_:(Tryz.prog.info? 27).map (fun i=>(i.zero,i.size))=some (some (.agg zzA),7):=by kernel_rfl
theorem zmO {W:World} {ok:Nat→Prop}:Row W ok (exD zEx) zzL:=zbC (x:=zEx) (zaN _ _)
def Gt2 (m B d:Nat) (w0:World) (Lf:Value→Value→List Bx) (D:List (List Dat×List Value)) (O:List Ow) (W:World) (acc:List Ex×List Str) (s:Ps):Prop :=
 acc.1.length≤s.i+m∧acc.2.length≤s.i+m∧∃ v1 v2 c1 c2,Sr B d w0 W s (Lf v1 v2) D (⟨27,7,v1,acc.1.map exD,c1⟩::⟨9,1,v2,acc.2.map strD,c2⟩::O)
theorem zmv {w0:World} {B A C ia ic d:Nat} {us:Value→Value→List Value} {Lf:Value→Value→List Bx} {D:List (List Dat×List Value)} {O:List Ow} (hA:∀ v1 v2,(Lf v1 v2)[ia]?=some (A,us v1 v2)) (hus1:∀ v1 v2,(us v1 v2)[11]?=some v1) (hus2:∀ v1 v2,(us v1 v2)[10]?=some v2) (hC:∀ v1 v2,(Lf v1 v2)[ic]?=some (C,[.pointer (some ⟨B,0,none⟩)])) (hset1:∀ v1 v2 v,(Lf v1 v2).set ia (A,(us v1 v2).set 11 v)=Lf v v2) (hset2:∀ v1 v2 v,(Lf v1 v2).set ia (A,(us v1 v2).set 10 v)=Lf v1 v) (w:World) (acc:List Ex×List Str) (s:Ps) (h:Gt2 0 B d w0 Lf D O w acc s) :
 Calls Tryz.prog 111 #[.pointer (some ⟨A,0,none⟩),.pointer (some ⟨C,0,none⟩)] w fun e w'=>e=.returned (.tuple #[])∧Gt2 1 B d w0 Lf D O w' (zay acc s).1 (zay acc s).2:=by
 obtain ⟨ha1,ha2,v1,v2,c1,c2,hs⟩:=h;have hil:=hs.pat.il;have htl:=hs.pat.tl;have HG1:Hid (acc.1.length+1≤(zay acc s).2.i+1∧acc.2.length+1≤(zay acc s).2.i+1):=by
  have:=(zcS acc s).i;show acc.1.length+1≤(zay acc s).2.i+1∧acc.2.length+1≤(zay acc s).2.i+1
  omega
 have hacc1:acc.1.length≤20000:=by omega
 have hacc2:acc.2.length≤20000:=by omega
 obtain ⟨ao1,cp1,h1⟩:=hs.st.form (i:=0) rfl;obtain ⟨ao2,cp2,h2⟩:=hs.st.form (i:=1) rfl;have h1':v1=.slice ao1 acc.1.length cp1:=by have:=h1;simpa using this
 have h2':v2=.slice ao2 acc.2.length cp2:=by have:=h2;simpa using this
 clear h1 h2;subst h1' h2';have hl1:11<(us (.slice ao1 acc.1.length cp1) (.slice ao2 acc.2.length cp2)).length:=(yE.1 (hus1 _ _)).1;have HL1:=hid hl1;have HL2:Hid (∀ v1 v2,10<(us v1 v2).length):=fun v1 v2=>(yE.1 (hus2 v1 v2)).1
 have H:=hid hs.drew;clear hs ha1 ha2 hl1;go_enter func111,ntmps111
 go_wp2_with fail
 refine zaa 10 (S:=fun W=>(W.cell? ⟨A,11,none⟩=some (.slice ao1 acc.1.length cp1)∧W.cell? ⟨C,0,none⟩=some (.pointer (some ⟨B,0,none⟩)))) (by kernel_rfl) (by exact ⟨H.out.cell (i:=ia+0) (hA _ _) (hus1 _ _),H.out.cell (i:=ic+0) (hC _ _) rfl⟩) (fun zJ=>?_);refine tKm 0 ?_;refine tKm 1 ?_;refine tKm 2 ?_;refine tKm 4 ?_;refine rKs [3,5] ?_;refine zai.cons rfl (fun K hK=>?_) (zai.cons rfl (fun K hK=>?_) zai.nil)
 ·go_simp;go_at_call 45
  (with_reducible (refine (zez _ s B d H.out.pat).mono ?_))
  rintro e wc ⟨ax,cx,rfl,hX,hK2,hP2⟩;have H2:=H.out.callR hK2 hP2 (zbC hX);clear hX hK2 hP2;try dsimp only
  refine hK.out _ _ ?_ (fun zH=>?_)
  ·exact ⟨H2.cell (i:=ia+0) (hA _ _) (hus1 _ _),H2.cell (i:=ic+0) (hC _ _) rfl⟩
  replace zJ:=zH;clear hK K;replace H:=hid H2;clear H2;refine rK1 5 fun K hK=>?_
  rw[if_pos (by rfl)];refine H.out.o_lit1 rfl underlying25 iEx2_ rfl rfl (by decide) (by decide) rfl rfl (fun wl Cl H2=>?_);refine hK.out _ _ ?_ (fun zH=>?_)
  ·exact ⟨H2.cell (i:=ia+1) (hA _ _) (hus1 _ _),H2.cell (i:=ic+1) (hC _ _) rfl⟩
  replace zJ:=zH;clear hK K;replace H:=hid H2;clear H2;refine rK1 6 fun K hK=>?_
  rw[if_pos (by rfl)];refine H.out.o_append (r:=exD zEx) rfl underlying25 iEx_ rfl (by decide) (by decide) 0 rfl rfl rfl rfl rfl 0 rfl (zbk _) zmO (by show (acc.1.map exD).length+1≤1000000;rw[yC];omega) (fun wl ao cap _ H2=>?_);obtain ⟨g,rfl⟩:=H2.st.someA (i:=0) rfl;refine hK.out _ _ ?_ (fun zH=>?_)
  ·exact ⟨H2.cell (i:=ia+1) (hA _ _) (hus1 _ _),H2.cell (i:=ic+1) (hC _ _) rfl⟩
  replace zJ:=zH;clear hK K;replace H:=hid H2;clear H2;simp only[yC];have hlt0:(acc.1.length:Int)<(acc.1.length:Int)+1:=by omega
  refine tKp 7 ?_;refine tKm 9 ?_;refine rKs [8,10] ?_;refine zai.cons rfl (fun K hK=>?_) (zai.last rfl (by kernel_rfl) (fun K hK=>?_) zai.nil)
  ·rw[if_pos (by rfl)];refine H.out.o_put (R:=acc.1.map exD) (C:=c1) (r:=exD (zak s).1) rfl 0 (by rfl) (by rw[yC];rfl) rfl rfl sEx_ (zbk _) (H.out.st.rowAt (j:=0) rfl) (fun wl H2=>?_);refine hK.out _ _ ?_ (fun zH=>?_)
   ·exact ⟨H2.cell (i:=ia+1) (hA _ _) (hus1 _ _),H2.cell (i:=ic+1) (hC _ _) rfl⟩
   replace zJ:=zH;clear hK K;replace H:=hid H2;clear H2;refine rKl 10 fun K hK=>?_
   rw[if_pos (by rfl)];refine H.out.o_store1 rfl rfl rfl (ia+1) (hA _ _) HL1.out sSEx_ rfl (fun wl H2=>?_);refine hK.out _ _ ?_;clear hK K;replace H:=hid H2;clear H2;refine rKd ?_;have H2:=H.out.drop (L':=Lf (.slice (some ⟨g,0,none⟩) ((acc.1.map exD).length+1) cap) (.slice ao2 acc.2.length cp2)) (by
    have e:=hset1 (.slice ao1 acc.1.length cp1) (.slice ao2 acc.2.length cp2) (.slice (some ⟨g,0,none⟩) ((acc.1.map exD).length+1) cap);simp only[yC]at e ⊢;rw[← e];exact .cons _ (List.Sublist.refl _))
   have H3:=H2.less (D':=D) (fun q hq=>yJ _ hq);clear H H2 zJ;have H:=hid H3;clear H3;go_wp2_with (first|(refine St.w_load1 (ty:=112) H.out.st (by rfl) rfl rfl ic (hC _ _) rfl uPar_ ?_)|(go_at_call 94;(with_reducible (refine (zar (zak s).2 [97,115] _ B d H.out.pat).mono ?_));rintro e wc ⟨rfl,hK,hP⟩;replace H:=hid (H.out.call hK hP);clear hK hP))
   replace H:=hid (H.out.drew);refine zaa 7 (S:=fun W=>(W.cell? ⟨A,10,none⟩=some (.slice ao2 acc.2.length cp2)∧W.cell? ⟨C,0,none⟩=some (.pointer (some ⟨B,0,none⟩)))) (by kernel_rfl) (by exact ⟨H.out.cell (i:=ia+0) (hA _ _) (hus2 _ _),H.out.cell (i:=ic+0) (hC _ _) rfl⟩) (fun zJ=>?_);refine tKm 0 ?_;refine tKm 1 ?_;refine tKm 2 ?_;refine rK1 3 fun K hK=>?_
   go_simp;go_at_call 109
   (with_reducible (refine (name_any (wantP [97,115] (zak s).2) _ B d H.out.pat).mono ?_))
   rintro e wc ⟨rfl,hK2,hP2⟩;have H2:=H.out.call hK2 hP2;clear hK2 hP2;try dsimp only
   refine hK.out _ _ ?_ (fun zH=>?_)
   ·exact ⟨H2.cell (i:=ia+0) (hA _ _) (hus2 _ _),H2.cell (i:=ic+0) (hC _ _) rfl⟩
   replace zJ:=zH;clear hK K;replace H:=hid H2;clear H2;refine rK1 4 fun K hK=>?_
   rw[if_pos (by rfl)];refine H.out.o_lit1 rfl underlying48 zaR rfl rfl (by decide) (by decide) rfl rfl (fun wl Cl H2=>?_);refine hK.out _ _ ?_ (fun zH=>?_)
   ·exact ⟨H2.cell (i:=ia+1) (hA _ _) (hus2 _ _),H2.cell (i:=ic+1) (hC _ _) rfl⟩
   replace zJ:=zH;clear hK K;replace H:=hid H2;clear H2;refine rK1 5 fun K hK=>?_
   rw[if_pos (by rfl)];refine H.out.o_append (r:=strD (nameP (wantP [97,115] (zak s).2)).1) rfl underlying48 iStr_ rfl (by decide) (by decide) 1 rfl rfl rfl rfl rfl 0 rfl rfl (zf5 _) (by show (acc.2.map strD).length+1≤1000000;rw[yC];omega) (fun wl ao9 cap9 _ H2=>?_);refine hK.out _ _ ?_ (fun zH=>?_)
   ·exact ⟨H2.cell (i:=ia+1) (hA _ _) (hus2 _ _),H2.cell (i:=ic+1) (hC _ _) rfl⟩
   replace zJ:=zH;clear hK K;replace H:=hid H2;clear H2;refine tKm 6 ?_;refine rKl 7 fun K hK=>?_
   rw[if_pos (by rfl)];refine H.out.o_store1 rfl rfl rfl (ia+1) (hA _ _) (HL2.out _ _) zef rfl (fun wl H2=>?_);refine hK.out _ _ ?_;clear hK K;replace H:=hid H2;clear H2;refine rKd ?_;go_wp2_with fail
   go_end0
   have H3:=H.out.drop (L':=Lf (.slice (some ⟨g,0,none⟩) ((acc.1.map exD).length+1) cap) (.slice ao9 ((acc.2.map strD).length+1) cap9)) (by
    have e:=hset2 (.slice (some ⟨g,0,none⟩) ((acc.1.map exD).length+1) cap) (.slice ao2 acc.2.length cp2) (.slice ao9 ((acc.2.map strD).length+1) cap9);rw[← e];exact .cons _ (List.Sublist.refl _))
   have e1:(zay acc s).1.1.map exD=acc.1.map exD++[exD (zak s).1]:=by
    show (acc.1++[_]).map exD=_
    rw[List.map_append];rfl
   have e2:(zay acc s).1.2.map strD=acc.2.map strD++[strD (nameP (wantP [97,115] (zak s).2)).1]:=by
    show (acc.2++[_]).map strD=_
    rw[List.map_append];rfl
   exact ⟨rfl,by show (acc.1++[_]).length≤_;rw[yA];exact HG1.out.1,by show (acc.2++[_]).length≤_;rw[yA];exact HG1.out.2,_,_,_,_,by rw[e1,e2];exact H3⟩
  ·rw[if_pos (by rfl)];refine H.out.o_store1 rfl rfl rfl (ia+1) (hA _ _) HL1.out sSEx_ rfl (fun wl H2=>?_);refine hK.out _ _ ?_;clear hK K;replace H:=hid H2;clear H2;refine rKl 8 fun K hK=>?_
   rw[if_pos (by rfl)];refine H.out.o_put (R:=acc.1.map exD) (C:=c1) (r:=exD (zak s).1) rfl 0 (by rfl) (by rw[yC];rfl) rfl rfl sEx_ (zbk _) (H.out.st.rowAt (j:=0) rfl) (fun wl H2=>?_);refine hK.out _ _ ?_;clear hK K;replace H:=hid H2;clear H2;refine rKd ?_;have H2:=H.out.drop (L':=Lf (.slice (some ⟨g,0,none⟩) ((acc.1.map exD).length+1) cap) (.slice ao2 acc.2.length cp2)) (by
    have e:=hset1 (.slice ao1 acc.1.length cp1) (.slice ao2 acc.2.length cp2) (.slice (some ⟨g,0,none⟩) ((acc.1.map exD).length+1) cap);simp only[yC]at e ⊢;rw[← e];exact .cons _ (List.Sublist.refl _))
   have H3:=H2.less (D':=D) (fun q hq=>yJ _ hq);clear H H2 zJ;have H:=hid H3;clear H3;go_wp2_with (first|(refine St.w_load1 (ty:=112) H.out.st (by rfl) rfl rfl ic (hC _ _) rfl uPar_ ?_)|(go_at_call 94;(with_reducible (refine (zar (zak s).2 [97,115] _ B d H.out.pat).mono ?_));rintro e wc ⟨rfl,hK,hP⟩;replace H:=hid (H.out.call hK hP);clear hK hP))
   replace H:=hid (H.out.drew);refine zaa 7 (S:=fun W=>(W.cell? ⟨A,10,none⟩=some (.slice ao2 acc.2.length cp2)∧W.cell? ⟨C,0,none⟩=some (.pointer (some ⟨B,0,none⟩)))) (by kernel_rfl) (by exact ⟨H.out.cell (i:=ia+0) (hA _ _) (hus2 _ _),H.out.cell (i:=ic+0) (hC _ _) rfl⟩) (fun zJ=>?_);refine tKm 0 ?_;refine tKm 1 ?_;refine tKm 2 ?_;refine rK1 3 fun K hK=>?_
   go_simp;go_at_call 109
   (with_reducible (refine (name_any (wantP [97,115] (zak s).2) _ B d H.out.pat).mono ?_))
   rintro e wc ⟨rfl,hK2,hP2⟩;have H2:=H.out.call hK2 hP2;clear hK2 hP2;try dsimp only
   refine hK.out _ _ ?_ (fun zH=>?_)
   ·exact ⟨H2.cell (i:=ia+0) (hA _ _) (hus2 _ _),H2.cell (i:=ic+0) (hC _ _) rfl⟩
   replace zJ:=zH;clear hK K;replace H:=hid H2;clear H2;refine rK1 4 fun K hK=>?_
   rw[if_pos (by rfl)];refine H.out.o_lit1 rfl underlying48 zaR rfl rfl (by decide) (by decide) rfl rfl (fun wl Cl H2=>?_);refine hK.out _ _ ?_ (fun zH=>?_)
   ·exact ⟨H2.cell (i:=ia+1) (hA _ _) (hus2 _ _),H2.cell (i:=ic+1) (hC _ _) rfl⟩
   replace zJ:=zH;clear hK K;replace H:=hid H2;clear H2;refine rK1 5 fun K hK=>?_
   rw[if_pos (by rfl)];refine H.out.o_append (r:=strD (nameP (wantP [97,115] (zak s).2)).1) rfl underlying48 iStr_ rfl (by decide) (by decide) 1 rfl rfl rfl rfl rfl 0 rfl rfl (zf5 _) (by show (acc.2.map strD).length+1≤1000000;rw[yC];omega) (fun wl ao9 cap9 _ H2=>?_);refine hK.out _ _ ?_ (fun zH=>?_)
   ·exact ⟨H2.cell (i:=ia+1) (hA _ _) (hus2 _ _),H2.cell (i:=ic+1) (hC _ _) rfl⟩
   replace zJ:=zH;clear hK K;replace H:=hid H2;clear H2;refine tKm 6 ?_;refine rKl 7 fun K hK=>?_
   rw[if_pos (by rfl)];refine H.out.o_store1 rfl rfl rfl (ia+1) (hA _ _) (HL2.out _ _) zef rfl (fun wl H2=>?_);refine hK.out _ _ ?_;clear hK K;replace H:=hid H2;clear H2;refine rKd ?_;go_wp2_with fail
   go_end0
   have H3:=H.out.drop (L':=Lf (.slice (some ⟨g,0,none⟩) ((acc.1.map exD).length+1) cap) (.slice ao9 ((acc.2.map strD).length+1) cap9)) (by
    have e:=hset2 (.slice (some ⟨g,0,none⟩) ((acc.1.map exD).length+1) cap) (.slice ao2 acc.2.length cp2) (.slice ao9 ((acc.2.map strD).length+1) cap9);rw[← e];exact .cons _ (List.Sublist.refl _))
   have e1:(zay acc s).1.1.map exD=acc.1.map exD++[exD (zak s).1]:=by
    show (acc.1++[_]).map exD=_
    rw[List.map_append];rfl
   have e2:(zay acc s).1.2.map strD=acc.2.map strD++[strD (nameP (wantP [97,115] (zak s).2)).1]:=by
    show (acc.2++[_]).map strD=_
    rw[List.map_append];rfl
   exact ⟨rfl,by show (acc.1++[_]).length≤_;rw[yA];exact HG1.out.1,by show (acc.2++[_]).length≤_;rw[yA];exact HG1.out.2,_,_,_,_,by rw[e1,e2];exact H3⟩
 ·rw[if_pos (by rfl)];refine H.out.o_lit1 rfl underlying25 iEx2_ rfl rfl (by decide) (by decide) rfl rfl (fun wl Cl H2=>?_);refine hK.out _ _ ?_ (fun zH=>?_)
  ·exact ⟨H2.cell (i:=ia+1) (hA _ _) (hus1 _ _),H2.cell (i:=ic+1) (hC _ _) rfl⟩
  replace zJ:=zH;clear hK K;replace H:=hid H2;clear H2;refine rK1 3 fun K hK=>?_
  go_simp;go_at_call 45
  (with_reducible (refine (zez _ s B d H.out.pat).mono ?_))
  rintro e wc ⟨ax,cx,rfl,hX,hK2,hP2⟩;have H2:=H.out.callR hK2 hP2 (zbC hX);clear hX hK2 hP2;try dsimp only
  refine hK.out _ _ ?_ (fun zH=>?_)
  ·exact ⟨H2.cell (i:=ia+1) (hA _ _) (hus1 _ _),H2.cell (i:=ic+1) (hC _ _) rfl⟩
  replace zJ:=zH;clear hK K;replace H:=hid H2;clear H2;refine rK1 6 fun K hK=>?_
  rw[if_pos (by rfl)];refine H.out.o_append (r:=exD zEx) rfl underlying25 iEx_ rfl (by decide) (by decide) 0 rfl rfl rfl rfl rfl 0 rfl (zbk _) zmO (by show (acc.1.map exD).length+1≤1000000;rw[yC];omega) (fun wl ao cap _ H2=>?_);obtain ⟨g,rfl⟩:=H2.st.someA (i:=0) rfl;refine hK.out _ _ ?_ (fun zH=>?_)
  ·exact ⟨H2.cell (i:=ia+1) (hA _ _) (hus1 _ _),H2.cell (i:=ic+1) (hC _ _) rfl⟩
  replace zJ:=zH;clear hK K;replace H:=hid H2;clear H2;simp only[yC];have hlt0:(acc.1.length:Int)<(acc.1.length:Int)+1:=by omega
  refine tKp 7 ?_;refine tKm 9 ?_;refine rKs [8,10] ?_;refine zai.cons rfl (fun K hK=>?_) (zai.last rfl (by kernel_rfl) (fun K hK=>?_) zai.nil)
  ·rw[if_pos (by rfl)];refine H.out.o_put (R:=acc.1.map exD) (C:=c1) (r:=exD (zak s).1) rfl 0 (by rfl) (by rw[yC];rfl) rfl rfl sEx_ (zbk _) (H.out.st.rowAt (j:=0) rfl) (fun wl H2=>?_);refine hK.out _ _ ?_ (fun zH=>?_)
   ·exact ⟨H2.cell (i:=ia+1) (hA _ _) (hus1 _ _),H2.cell (i:=ic+1) (hC _ _) rfl⟩
   replace zJ:=zH;clear hK K;replace H:=hid H2;clear H2;refine rKl 10 fun K hK=>?_
   rw[if_pos (by rfl)];refine H.out.o_store1 rfl rfl rfl (ia+1) (hA _ _) HL1.out sSEx_ rfl (fun wl H2=>?_);refine hK.out _ _ ?_;clear hK K;replace H:=hid H2;clear H2;refine rKd ?_;have H2:=H.out.drop (L':=Lf (.slice (some ⟨g,0,none⟩) ((acc.1.map exD).length+1) cap) (.slice ao2 acc.2.length cp2)) (by
    have e:=hset1 (.slice ao1 acc.1.length cp1) (.slice ao2 acc.2.length cp2) (.slice (some ⟨g,0,none⟩) ((acc.1.map exD).length+1) cap);simp only[yC]at e ⊢;rw[← e];exact .cons _ (List.Sublist.refl _))
   have H3:=H2.less (D':=D) (fun q hq=>yJ _ hq);clear H H2 zJ;have H:=hid H3;clear H3;go_wp2_with (first|(refine St.w_load1 (ty:=112) H.out.st (by rfl) rfl rfl ic (hC _ _) rfl uPar_ ?_)|(go_at_call 94;(with_reducible (refine (zar (zak s).2 [97,115] _ B d H.out.pat).mono ?_));rintro e wc ⟨rfl,hK,hP⟩;replace H:=hid (H.out.call hK hP);clear hK hP))
   replace H:=hid (H.out.drew);refine zaa 7 (S:=fun W=>(W.cell? ⟨A,10,none⟩=some (.slice ao2 acc.2.length cp2)∧W.cell? ⟨C,0,none⟩=some (.pointer (some ⟨B,0,none⟩)))) (by kernel_rfl) (by exact ⟨H.out.cell (i:=ia+0) (hA _ _) (hus2 _ _),H.out.cell (i:=ic+0) (hC _ _) rfl⟩) (fun zJ=>?_);refine tKm 0 ?_;refine tKm 1 ?_;refine tKm 2 ?_;refine rK1 3 fun K hK=>?_
   go_simp;go_at_call 109
   (with_reducible (refine (name_any (wantP [97,115] (zak s).2) _ B d H.out.pat).mono ?_))
   rintro e wc ⟨rfl,hK2,hP2⟩;have H2:=H.out.call hK2 hP2;clear hK2 hP2;try dsimp only
   refine hK.out _ _ ?_ (fun zH=>?_)
   ·exact ⟨H2.cell (i:=ia+0) (hA _ _) (hus2 _ _),H2.cell (i:=ic+0) (hC _ _) rfl⟩
   replace zJ:=zH;clear hK K;replace H:=hid H2;clear H2;refine rK1 4 fun K hK=>?_
   rw[if_pos (by rfl)];refine H.out.o_lit1 rfl underlying48 zaR rfl rfl (by decide) (by decide) rfl rfl (fun wl Cl H2=>?_);refine hK.out _ _ ?_ (fun zH=>?_)
   ·exact ⟨H2.cell (i:=ia+1) (hA _ _) (hus2 _ _),H2.cell (i:=ic+1) (hC _ _) rfl⟩
   replace zJ:=zH;clear hK K;replace H:=hid H2;clear H2;refine rK1 5 fun K hK=>?_
   rw[if_pos (by rfl)];refine H.out.o_append (r:=strD (nameP (wantP [97,115] (zak s).2)).1) rfl underlying48 iStr_ rfl (by decide) (by decide) 1 rfl rfl rfl rfl rfl 0 rfl rfl (zf5 _) (by show (acc.2.map strD).length+1≤1000000;rw[yC];omega) (fun wl ao9 cap9 _ H2=>?_);refine hK.out _ _ ?_ (fun zH=>?_)
   ·exact ⟨H2.cell (i:=ia+1) (hA _ _) (hus2 _ _),H2.cell (i:=ic+1) (hC _ _) rfl⟩
   replace zJ:=zH;clear hK K;replace H:=hid H2;clear H2;refine tKm 6 ?_;refine rKl 7 fun K hK=>?_
   rw[if_pos (by rfl)];refine H.out.o_store1 rfl rfl rfl (ia+1) (hA _ _) (HL2.out _ _) zef rfl (fun wl H2=>?_);refine hK.out _ _ ?_;clear hK K;replace H:=hid H2;clear H2;refine rKd ?_;go_wp2_with fail
   go_end0
   have H3:=H.out.drop (L':=Lf (.slice (some ⟨g,0,none⟩) ((acc.1.map exD).length+1) cap) (.slice ao9 ((acc.2.map strD).length+1) cap9)) (by
    have e:=hset2 (.slice (some ⟨g,0,none⟩) ((acc.1.map exD).length+1) cap) (.slice ao2 acc.2.length cp2) (.slice ao9 ((acc.2.map strD).length+1) cap9);rw[← e];exact .cons _ (List.Sublist.refl _))
   have e1:(zay acc s).1.1.map exD=acc.1.map exD++[exD (zak s).1]:=by
    show (acc.1++[_]).map exD=_
    rw[List.map_append];rfl
   have e2:(zay acc s).1.2.map strD=acc.2.map strD++[strD (nameP (wantP [97,115] (zak s).2)).1]:=by
    show (acc.2++[_]).map strD=_
    rw[List.map_append];rfl
   exact ⟨rfl,by show (acc.1++[_]).length≤_;rw[yA];exact HG1.out.1,by show (acc.2++[_]).length≤_;rw[yA];exact HG1.out.2,_,_,_,_,by rw[e1,e2];exact H3⟩
  ·rw[if_pos (by rfl)];refine H.out.o_store1 rfl rfl rfl (ia+1) (hA _ _) HL1.out sSEx_ rfl (fun wl H2=>?_);refine hK.out _ _ ?_;clear hK K;replace H:=hid H2;clear H2;refine rKl 8 fun K hK=>?_
   rw[if_pos (by rfl)];refine H.out.o_put (R:=acc.1.map exD) (C:=c1) (r:=exD (zak s).1) rfl 0 (by rfl) (by rw[yC];rfl) rfl rfl sEx_ (zbk _) (H.out.st.rowAt (j:=0) rfl) (fun wl H2=>?_);refine hK.out _ _ ?_;clear hK K;replace H:=hid H2;clear H2;refine rKd ?_;have H2:=H.out.drop (L':=Lf (.slice (some ⟨g,0,none⟩) ((acc.1.map exD).length+1) cap) (.slice ao2 acc.2.length cp2)) (by
    have e:=hset1 (.slice ao1 acc.1.length cp1) (.slice ao2 acc.2.length cp2) (.slice (some ⟨g,0,none⟩) ((acc.1.map exD).length+1) cap);simp only[yC]at e ⊢;rw[← e];exact .cons _ (List.Sublist.refl _))
   have H3:=H2.less (D':=D) (fun q hq=>yJ _ hq);clear H H2 zJ;have H:=hid H3;clear H3;go_wp2_with (first|(refine St.w_load1 (ty:=112) H.out.st (by rfl) rfl rfl ic (hC _ _) rfl uPar_ ?_)|(go_at_call 94;(with_reducible (refine (zar (zak s).2 [97,115] _ B d H.out.pat).mono ?_));rintro e wc ⟨rfl,hK,hP⟩;replace H:=hid (H.out.call hK hP);clear hK hP))
   replace H:=hid (H.out.drew);refine zaa 7 (S:=fun W=>(W.cell? ⟨A,10,none⟩=some (.slice ao2 acc.2.length cp2)∧W.cell? ⟨C,0,none⟩=some (.pointer (some ⟨B,0,none⟩)))) (by kernel_rfl) (by exact ⟨H.out.cell (i:=ia+0) (hA _ _) (hus2 _ _),H.out.cell (i:=ic+0) (hC _ _) rfl⟩) (fun zJ=>?_);refine tKm 0 ?_;refine tKm 1 ?_;refine tKm 2 ?_;refine rK1 3 fun K hK=>?_
   go_simp;go_at_call 109
   (with_reducible (refine (name_any (wantP [97,115] (zak s).2) _ B d H.out.pat).mono ?_))
   rintro e wc ⟨rfl,hK2,hP2⟩;have H2:=H.out.call hK2 hP2;clear hK2 hP2;try dsimp only
   refine hK.out _ _ ?_ (fun zH=>?_)
   ·exact ⟨H2.cell (i:=ia+0) (hA _ _) (hus2 _ _),H2.cell (i:=ic+0) (hC _ _) rfl⟩
   replace zJ:=zH;clear hK K;replace H:=hid H2;clear H2;refine rK1 4 fun K hK=>?_
   rw[if_pos (by rfl)];refine H.out.o_lit1 rfl underlying48 zaR rfl rfl (by decide) (by decide) rfl rfl (fun wl Cl H2=>?_);refine hK.out _ _ ?_ (fun zH=>?_)
   ·exact ⟨H2.cell (i:=ia+1) (hA _ _) (hus2 _ _),H2.cell (i:=ic+1) (hC _ _) rfl⟩
   replace zJ:=zH;clear hK K;replace H:=hid H2;clear H2;refine rK1 5 fun K hK=>?_
   rw[if_pos (by rfl)];refine H.out.o_append (r:=strD (nameP (wantP [97,115] (zak s).2)).1) rfl underlying48 iStr_ rfl (by decide) (by decide) 1 rfl rfl rfl rfl rfl 0 rfl rfl (zf5 _) (by show (acc.2.map strD).length+1≤1000000;rw[yC];omega) (fun wl ao9 cap9 _ H2=>?_);refine hK.out _ _ ?_ (fun zH=>?_)
   ·exact ⟨H2.cell (i:=ia+1) (hA _ _) (hus2 _ _),H2.cell (i:=ic+1) (hC _ _) rfl⟩
   replace zJ:=zH;clear hK K;replace H:=hid H2;clear H2;refine tKm 6 ?_;refine rKl 7 fun K hK=>?_
   rw[if_pos (by rfl)];refine H.out.o_store1 rfl rfl rfl (ia+1) (hA _ _) (HL2.out _ _) zef rfl (fun wl H2=>?_);refine hK.out _ _ ?_;clear hK K;replace H:=hid H2;clear H2;refine rKd ?_;go_wp2_with fail
   go_end0
   have H3:=H.out.drop (L':=Lf (.slice (some ⟨g,0,none⟩) ((acc.1.map exD).length+1) cap) (.slice ao9 ((acc.2.map strD).length+1) cap9)) (by
    have e:=hset2 (.slice (some ⟨g,0,none⟩) ((acc.1.map exD).length+1) cap) (.slice ao2 acc.2.length cp2) (.slice ao9 ((acc.2.map strD).length+1) cap9);rw[← e];exact .cons _ (List.Sublist.refl _))
   have e1:(zay acc s).1.1.map exD=acc.1.map exD++[exD (zak s).1]:=by
    show (acc.1++[_]).map exD=_
    rw[List.map_append];rfl
   have e2:(zay acc s).1.2.map strD=acc.2.map strD++[strD (nameP (wantP [97,115] (zak s).2)).1]:=by
    show (acc.2++[_]).map strD=_
    rw[List.map_append];rfl
   exact ⟨rfl,by show (acc.1++[_]).length≤_;rw[yA];exact HG1.out.1,by show (acc.2++[_]).length≤_;rw[yA];exact HG1.out.2,_,_,_,_,by rw[e1,e2];exact H3⟩
abbrev QOk (F:FuncId) (f:PQ) (B d:Nat):Prop:=∀ W s,PAt W B d s→Calls Tryz.prog F #[.pointer (some ⟨B,0,none⟩)] W (RowTo W B d (plD (f s).1) (f s).2)
abbrev DpQ (f:PQ) (B d:Nat):Prop:=∀ W C s,PAt W B d s→Box W C [.pointer (some ⟨B,0,none⟩)]→C≠B→Calls Tryz.prog 54 #[.pointer (some ⟨B,0,none⟩),.func (.func 108) #[] #[.pointer (some ⟨C,0,none⟩)]] W (RowTo W B d (plD (f s).1) (f s).2)
theorem zkE {w w':World} {B d:Nat} {x:Pl} {s:Ps} {e:Ending} (h:PlTo w B d x s e w'):RowTo w B d (plD x) s e w':=by
 obtain ⟨a0,n0,k0,a1,n1,k1,a2,n2,k2,a3,n3,k3,a4,n4,k4,a5,n5,k5,a6,n6,k6,rfl,h1,h2,h3⟩:=h;exact ⟨_,rfl,h1,h2,h3⟩
theorem zfF {W:World} {ok:Nat→Prop} (n:Str):Row W ok (plD (scanL n)) [.int .i64 1,.string ⟨n.toArray⟩,.slice none 0 0,.int .i64 0,.string ⟨#[]⟩,.int .i64 0,.int .i64 0,.string ⟨#[]⟩,.string ⟨#[]⟩,.slice none 0 0,.slice none 0 0,.slice none 0 0,.slice none 0 0,.slice none 0 0,.slice none 0 0,.int .i64 0] :=
 zb6 (x:=scanL n) ⟨by rw[show (scanL n).xs=[] from rfl,plDs];exact Rep.nil _ _ _,by rw[show (scanL n).cond.xs=[] from rfl,exDs];exact Rep.nil _ _ _,Rep.nil _ _ _,by rw[show (scanL n).exprs=[] from rfl,exDs];exact Rep.nil _ _ _,Rep.nil _ _ _,Rep.nil _ _ _,Rep.nil _ _ _⟩
theorem zlB (q:PQ) (B d:Nat) (hq:QOk 55 q B d) (w:World) (C:Nat) (s:Ps) (hp:PAt w B d s) (hc:Box w C [.pointer (some ⟨B,0,none⟩)]) (hcb:C≠B):Calls Tryz.prog 108 #[.pointer (some ⟨C,0,none⟩)] w (RowTo w B d (plD (zdL q s).1) (zdL q s).2):=by
 have H:=hid (Sr.start hp);have HQ:=hid hq;have HC:=hid hc;have HCB:=hid hcb;have HCell:Hid (∀ W s' L D,Sr B d w W s' L D []→W.cell? ⟨C,0,none⟩=some (.pointer (some ⟨B,0,none⟩))):=fun W s' L D h=>(kcell h.st.kept hc.lt hcb).trans (hc.cl 0 _ rfl)
 clear hp hq hc hcb;go_enter func108,ntmps108
 go_wp2_with (first|(refine Sr.w_alloc (ty:=57) H.out (by rfl) rfl zPl_ rfl ?_;intro wn Cn H2;replace H:=hid H2;clear H2)|(refine zcL (by rfl) (ty:=112) rfl rfl (HCell.out _ _ _ _ H.out) uPar_ ?_)|(first|(go_at_call 94;(with_reducible (refine (zar s [40] _ B d H.out.pat).mono ?_));rintro e wc ⟨rfl,hK,hP⟩;replace H:=hid (H.out.call hK hP);clear hK hP)|(go_at_call 94;(with_reducible (refine (zar (q (wantP [40] s)).2 [41] _ B d H.out.pat).mono ?_));rintro e wc ⟨rfl,hK,hP⟩;replace H:=hid (H.out.call hK hP);clear hK hP))|(go_at_call 55;(with_reducible (refine (HQ.out _ _ H.out.pat).mono ?_));intro e wc hR;obtain ⟨a0,n0,k0,a1,n1,k1,a2,n2,k2,a3,n3,k3,a4,n4,k4,a5,n5,k5,a6,n6,k6,rfl,hX,hK,hP⟩:=PlTo.of hR;replace H:=hid (H.out.callR hK hP hX);clear hX hK hP hR)|(first|(refine Sr.w_store (ty:=57) H.out (by rfl) rfl rfl rfl 0 rfl rfl rfl sPl_ (zad rfl) ?_;intro wn H2;replace H:=hid H2;clear H2)|(refine Sr.w_store (ty:=57) H.out (by rfl) rfl rfl rfl 1 rfl rfl rfl sPl_ (zad rfl) ?_;intro wn H2;replace H:=hid H2;clear H2))|(first|(refine St.w_load (ty:=57) H.out.st (by rfl) rfl rfl 0 rfl uPl_ sPl_ ?_)|(refine St.w_load (ty:=57) H.out.st (by rfl) rfl rfl 1 rfl uPl_ sPl_ ?_)))
 refine bodyPost_ret (H.out.st.results results108 (by rfl) 1 rfl uPl_ sPl_) rfl ?_;exact H.out.rowTo (j:=0) rfl
theorem sr_ne {B d:Nat} {w0 w:World} {s:Ps} {L:List Bx} {D:List (List Dat×List Value)} {O:List Ow} (h:Sr B d w0 w s L D O) {i C:Nat} {us:List Value} (hi:L[i]?=some (C,us)):C≠B:=by have:=h.st.new _ (yP hi);have:=h.lt;show C≠B;omega
theorem zkG (dp:PQ) (B d:Nat) (hd:DpQ dp B d):QOk 87 (partP dp) B d:=fun w s hp=>by
 have H:=hid (Sr.start hp);have HD:=hid hd
 cases hx:isP s [40] with
 | true =>
  have HIS:Hid (∀ W,PAt W B d s→Calls Tryz.prog 107 #[.pointer (some ⟨B,0,none⟩),.string ⟨#[40]⟩] W fun e w'=>e=.returned (.bool true)∧Below W.heap.size W w'):=fun W hW=>zbP s [40] true hx W B d hW
  have HE:Hid (partP dp s=dp s):=by show partP dp s=_;unfold partP;rw[if_pos hx]
  clear hp hd hx;go_enter func87,ntmps87
  go_wp2_with (first|(refine Sr.w_box H.out (by rfl) rfl rfl rfl ?_;intro wn Cn H2;replace H:=hid H2;clear H2)|(refine Sr.w_alloc (ty:=57) H.out (by rfl) rfl zPl_ rfl ?_;intro wn Cn H2;replace H:=hid H2;clear H2)|(first|(refine St.w_load1 (ty:=112) H.out.st (by rfl) rfl rfl 0 rfl rfl uPar_ ?_)|(refine St.w_load1 (ty:=112) H.out.st (by rfl) rfl rfl 1 rfl rfl uPar_ ?_))|(go_at_call 107;(with_reducible (refine (HIS.out _ H.out.pat).mono ?_));rintro e wc ⟨rfl,hb⟩;replace H:=hid (H.out.below hb);clear hb)|(go_at_call 54;(with_reducible (refine (HD.out _ _ s H.out.pat (H.out.st.at (i:=1) rfl) (sr_ne H.out (i:=1) rfl)).mono ?_));intro e wc hR;obtain ⟨a0,n0,k0,a1,n1,k1,a2,n2,k2,a3,n3,k3,a4,n4,k4,a5,n5,k5,a6,n6,k6,rfl,hX,hK,hP⟩:=PlTo.of hR;replace H:=hid (H.out.callR hK hP hX);clear hX hK hP hR)|(first|(refine Sr.w_store (ty:=57) H.out (by rfl) rfl rfl rfl 0 rfl rfl rfl sPl_ (zad rfl) ?_;intro wn H2;replace H:=hid H2;clear H2)))
  rw[HE.out];refine bodyPost_ret (H.out.st.results results87 (by rfl) 0 rfl uPl_ sPl_) rfl ?_;exact H.out.rowTo (j:=0) rfl
 | false =>
  have HIS:Hid (∀ W,PAt W B d s→Calls Tryz.prog 107 #[.pointer (some ⟨B,0,none⟩),.string ⟨#[40]⟩] W fun e w'=>e=.returned (.bool false)∧Below W.heap.size W w'):=fun W hW=>zbP s [40] false hx W B d hW
  have HE:Hid (partP dp s=(scanL (nameP s).1,(nameP s).2)):=by show partP dp s=_;unfold partP;rw[if_neg (by rw[hx];decide)]
  clear hp hd hx HD;go_enter func87,ntmps87
  go_wp2_with (first|(refine Sr.w_box H.out (by rfl) rfl rfl rfl ?_;intro wn Cn H2;replace H:=hid H2;clear H2)|(refine Sr.w_alloc (ty:=57) H.out (by rfl) rfl zPl_ rfl ?_;intro wn Cn H2;replace H:=hid H2;clear H2)|(first|(refine St.w_load1 (ty:=112) H.out.st (by rfl) rfl rfl 0 rfl rfl uPar_ ?_)|(refine St.w_load1 (ty:=112) H.out.st (by rfl) rfl rfl 1 rfl rfl uPar_ ?_))|(go_at_call 107;(with_reducible (refine (HIS.out _ H.out.pat).mono ?_));rintro e wc ⟨rfl,hb⟩;replace H:=hid (H.out.below hb);clear hb)|(go_at_call 109;(with_reducible (refine (name_any s _ B d H.out.pat).mono ?_));rintro e wc ⟨rfl,hK,hP⟩;replace H:=hid (H.out.call hK hP);clear hK hP)|(first|(refine Sr.w_store (ty:=57) H.out (by rfl) rfl rfl rfl 0 rfl rfl rfl sPl_ (zad rfl) ?_;intro wn H2;replace H:=hid H2;clear H2)))
  rw[HE.out];refine bodyPost_ret (H.out.st.results results87 (by rfl) 0 rfl uPl_ sPl_) rfl ?_;exact H.out.rowTo' (zfF _)
