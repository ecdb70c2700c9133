/- Walks: what a join puts into a plan. -/
import Derived.Test.YtonkjhmkppeagaaGreatDoorWQ6
set_option linter.unusedVariables false
set_option linter.unusedSimpArgs false
namespace Go.Proofs.YtonkjhmkppeagaaGreatDoor.Pz
open Go.Proofs.Tryz
open Go.Lib (hid)
open Go.RowKit Go Go.Sort Ba Lx
theorem iPl_:(Tryz.prog.info? 57).map (fun i=>(i.zero,i.size,i.bytes))=some (some (.agg zzP),16,272):=by kernel_rfl
theorem iPl2_:(Tryz.prog.info? 57).map (fun i=>(i.zero,i.size))=some (some (.agg zzP),16):=by kernel_rfl
theorem zsz:(Tryz.prog.info? 4).bind (·.zero)=some (.bool false):=by kernel_rfl
set_option maxRecDepth 100000 in
set_option maxHeartbeats 1600000 in
theorem zkT {w0:World} {B d ia A:Nat} {Lq:List Value→List Bx} (hA:∀ us,(Lq us)[ia]?=some (A,us)) (hset:∀ us vs,(Lq us).set ia (A,vs)=Lq vs) {D:List (List Dat×List Value)} {O:List Ow} (dp:PQ) (hd:QOk 87 (partP dp) B d) (us:List Value) (a2:Option Addr) (p2:Nat) (r0:List Dat) (c2:List (List Value)) (hl:us.length=16) (h2:us[2]?=some (.slice a2 1 p2)) (h12:us[12]?=some (.slice none 0 0)) (w:World) (s:Ps) (h:Sr B d w0 w s (Lq us) D (⟨57,16,.slice a2 1 p2,[r0],c2⟩::O)) :
 Calls Tryz.prog 112 #[.pointer (some ⟨B,0,none⟩),.pointer (some ⟨A,0,none⟩)] w fun e w'=>e=.returned (.tuple #[])∧∃ g cap c2' v12,Sr B d w0 w' (joinP dp s).2 (Lq ((us.set 2 (.slice (some ⟨g,0,none⟩) 2 cap)).set 12 v12)) (([.sl 2 ((joinP dp s).1.2.map pairD)],[v12])::D) (⟨57,16,.slice (some ⟨g,0,none⟩) 2 cap,[r0,plD (joinP dp s).1.1],c2'⟩::O):=by
 have H:=hid h;have HL:=hid hl;have HD:=hid hd;have HF:Hid (joinP dp s=(((partP dp s).1,(listP zaU [] (wantP [111,110] (partP dp s).2)).1),(listP zaU [] (wantP [111,110] (partP dp s).2)).2)):=by show joinP dp s=_;rfl
 have HN:∀ v,(us.set 2 v)[12]?=some (.slice none 0 0):=fun v=>by rw[List.getElem?_set_ne (by decide)];exact h12
 have HG:Hid (∀ (us2:List Value) (C Q:Nat) (W:World) (D:List (List Dat×List Value)) (O:List Ow),us2[12]?=some (.slice none 0 0)→Sr B d w0 W (wantP [111,110] (partP dp s).2) ((Q,[.pointer (some ⟨A,0,none⟩)])::(C,[.pointer (some ⟨B,0,none⟩)])::Lq us2) D O→Calls Tryz.prog 110 #[.pointer (some ⟨B,0,none⟩),.func (.func 144) #[] #[.pointer (some ⟨C,0,none⟩),.pointer (some ⟨Q,0,none⟩)]] W fun e w'=>e=.returned (.tuple #[])∧∃ v,Sr B d w0 w' (listP zaU [] (wantP [111,110] (partP dp s).2)).2 (Lq (us2.set 12 v)) (([.sl 2 ((listP zaU [] (wantP [111,110] (partP dp s).2)).1.map pairD)],[v])::D) O):=fun us2 C Q W D O hnil hs=>by
  have hl2:12<us2.length:=(yE.1 hnil).1;have:=zcz (Lf:=fun v=>(Q,[.pointer (some ⟨A,0,none⟩)])::(C,[.pointer (some ⟨B,0,none⟩)])::Lq (us2.set 12 v)) (T:=65) (k:=2) (rD:=pairD) 144 (enters_of func144 (by kernel_rfl) rfl) _ zaU zb4
   (fun W acc s hg=>znQ (us:=fun v=>us2.set 12 v) (ia:=ia+2) (ic:=1) (iq:=0) (fun v=>hA _) (fun v=>List.getElem?_set_self hl2) (fun _=>rfl) (fun v v'=>by show _::_::(Lq _).set ia _=_;rw[hset,List.set_set]) (fun _=>rfl) W acc s hg) W (wantP [111,110] (partP dp s).2) (by rw[zcR hnil];exact hs)
  refine this.mono fun e w' ⟨he,ao,cp,cells,hj⟩=>?_
  exact ⟨he,_,(hj.drop (.cons _ (.cons _ (List.Sublist.refl _)))).shut⟩
 clear h hl hd h12;go_enter func112,ntmps112
 go_wp2_with (first|(refine Sr.w_box (ty:=112) H.out (by rfl) rfl rfl rfl ?_;intro wn C H2;replace H:=hid H2;clear H2)|(refine Sr.w_box (ty:=177) H.out (by rfl) rfl rfl rfl ?_;intro wn Q H2;replace H:=hid H2;clear H2))
 replace H:=hid (H.out.drew);refine zaa 3 (S:=fun W=>True) (by kernel_rfl) (by exact trivial) (fun zJ=>?_);refine rK1 0 fun K hK=>?_
 rw[if_pos (by rfl)];refine H.out.o_alloc (ty:=4) rfl zsz rfl (fun wl Cb H2=>?_);refine hK.out _ _ ?_ (fun zH=>?_)
 ·exact trivial
 replace zJ:=zH;clear hK K;replace H:=hid H2;clear H2;refine rKs [1,2] ?_;refine zai.cons rfl (fun K hK=>?_) (zai.cons rfl (fun K hK=>?_) zai.nil)
 ·rw[if_pos (by rfl)];refine H.out.o_store1 (ty:=4) rfl rfl rfl 0 rfl (yI rfl) zit rfl (fun wl H2=>?_);refine hK.out _ _ ?_ (fun zH=>?_)
  ·exact trivial
  replace zJ:=zH;clear hK K;replace H:=hid H2;clear H2;refine rK1 2 fun K hK=>?_
  rw[if_pos (by rfl)];refine H.out.o_store1 (ty:=4) rfl rfl rfl 0 rfl (yI rfl) zit rfl (fun wl H2=>?_);refine hK.out _ _ ?_ (fun zH=>?_)
  ·exact trivial
  replace zJ:=zH;clear hK K;replace H:=hid H2;clear H2;refine rKl 3 fun K hK=>?_
  rw[if_pos (by rfl)];refine zdF (ty:=4) rfl rfl (H.out.cell (i:=0) rfl rfl) zqG ?_;refine hK.out _ _ ?_;clear hK K;refine rKd ?_;go_wp2_with fail
  replace H:=hid (H.out.drew);refine zaa 11 (S:=fun W=>(W.cell? ⟨Q,0,none⟩=some (.pointer (some ⟨A,0,none⟩))∧W.cell? ⟨C,0,none⟩=some (.pointer (some ⟨B,0,none⟩))∧W.cell? ⟨A,2,none⟩=some (.slice a2 1 p2))) (by kernel_rfl) (by exact ⟨H.out.cell (i:=1) rfl rfl,H.out.cell (i:=2) rfl rfl,H.out.cell (i:=ia+3) (hA us) h2⟩) (fun zJ=>?_);refine tKm 0 ?_;refine tKm 1 ?_;refine tKm 2 ?_;refine tKm 3 ?_;refine tKm 4 ?_;refine tKm 5 ?_;refine rK1 6 fun K hK=>?_
  go_simp;go_at_call 87
  (with_reducible (refine (HD.out _ s H.out.pat).mono ?_))
  intro e wc hR;obtain ⟨a0,n0,k0,a1,n1,k1,a2,n2,k2,a3,n3,k3,a4,n4,k4,a5,n5,k5,a6,n6,k6,rfl,hX,hK,hP⟩:=PlTo.of hR;have H2:=H.out.callR hK hP hX;clear hX hK hP hR;try dsimp only
  refine hK.out _ _ ?_ (fun zH=>?_)
  ·exact ⟨H2.cell (i:=1) rfl rfl,H2.cell (i:=2) rfl rfl,H2.cell (i:=ia+3) (hA us) h2⟩
  replace zJ:=zH;clear hK K;replace H:=hid H2;clear H2;refine rK1 7 fun K hK=>?_
  rw[if_pos (by rfl)];refine H.out.o_lit1 rfl underlying52 iPl2_ rfl rfl (by decide) (by decide) rfl rfl (fun wl Cl H2=>?_);refine hK.out _ _ ?_ (fun zH=>?_)
  ·exact ⟨H2.cell (i:=2) rfl rfl,H2.cell (i:=3) rfl rfl,H2.cell (i:=ia+4) (hA us) h2⟩
  replace zJ:=zH;clear hK K;replace H:=hid H2;clear H2;refine rK1 8 fun K hK=>?_
  rw[if_pos (by rfl)];refine H.out.o_append (r:=plD (partP dp s).1) rfl underlying52 iPl_ rfl (by decide) (by decide) 0 rfl rfl rfl rfl rfl 0 rfl (za7 _) (H.out.st.rowAt (j:=0) rfl) (by show 1+1≤1000000;decide) (fun wl ao cap _ H2=>?_);obtain ⟨g,rfl⟩:=H2.st.someA (i:=0) rfl;refine hK.out _ _ ?_ (fun zH=>?_)
  ·exact ⟨H2.cell (i:=2) rfl rfl,H2.cell (i:=3) rfl rfl,H2.cell (i:=ia+4) (hA us) h2⟩
  replace zJ:=zH;clear hK K;replace H:=hid H2;clear H2;refine tKp 9 ?_;refine tKm 10 ?_;refine rKl 11 fun K hK=>?_
  rw[if_pos (by rfl)];refine H.out.o_store1 rfl rfl rfl (ia+4) (hA us) (by show 2<us.length;rw[HL.out];decide) sSPl_ rfl (fun wl H2=>?_);refine hK.out _ _ ?_;clear hK K;replace H:=hid H2;clear H2;refine rKd ?_;have H2:=H.out.drop (L':=(Q,[.pointer (some ⟨A,0,none⟩)])::(C,[.pointer (some ⟨B,0,none⟩)])::Lq (us.set 2 (.slice (some ⟨g,0,none⟩) 2 cap))) (by
   rw[← hset us (us.set 2 (.slice (some ⟨g,0,none⟩) 2 cap))];exact .cons _ (.cons _ (.cons_cons _ (.cons_cons _ (List.Sublist.refl _)))))
  replace H:=hid H2;clear H2;go_wp2_with (first|(refine St.w_load1 (ty:=112) H.out.st (by rfl) rfl rfl 1 rfl rfl uPar_ ?_)|(go_at_call 94;(with_reducible (refine (zar (partP dp s).2 [111,110] _ B d H.out.pat).mono ?_));rintro e wc ⟨rfl,hK,hP⟩;replace H:=hid (H.out.call hK hP);clear hK hP)|(go_at_call 110;(with_reducible (refine (HG.out _ _ _ _ _ _ (HN _) H.out).mono ?_));rintro e wc ⟨rfl,v9,H2⟩;replace H:=hid H2;clear H2))
  go_end0
  rw[HF.out];dsimp only;exact ⟨rfl,g,cap,_,v9,H.out.less (by intro q hq;rcases List.mem_cons.1 hq with rfl|hq;exact yX;exact yJ _ (yJ _ hq))⟩
 ·rw[if_pos (by rfl)];refine H.out.o_store1 (ty:=4) rfl rfl rfl 0 rfl (yI rfl) zit rfl (fun wl H2=>?_);refine hK.out _ _ ?_ (fun zH=>?_)
  ·exact trivial
  replace zJ:=zH;clear hK K;replace H:=hid H2;clear H2;refine rK1 1 fun K hK=>?_
  rw[if_pos (by rfl)];refine H.out.o_store1 (ty:=4) rfl rfl rfl 0 rfl (yI rfl) zit rfl (fun wl H2=>?_);refine hK.out _ _ ?_ (fun zH=>?_)
  ·exact trivial
  replace zJ:=zH;clear hK K;replace H:=hid H2;clear H2;refine rKl 3 fun K hK=>?_
  rw[if_pos (by rfl)];refine zdF (ty:=4) rfl rfl (H.out.cell (i:=0) rfl rfl) zqG ?_;refine hK.out _ _ ?_;clear hK K;refine rKd ?_;go_wp2_with fail
  replace H:=hid (H.out.drew);refine zaa 11 (S:=fun W=>(W.cell? ⟨Q,0,none⟩=some (.pointer (some ⟨A,0,none⟩))∧W.cell? ⟨C,0,none⟩=some (.pointer (some ⟨B,0,none⟩))∧W.cell? ⟨A,2,none⟩=some (.slice a2 1 p2))) (by kernel_rfl) (by exact ⟨H.out.cell (i:=1) rfl rfl,H.out.cell (i:=2) rfl rfl,H.out.cell (i:=ia+3) (hA us) h2⟩) (fun zJ=>?_);refine tKm 0 ?_;refine tKm 1 ?_;refine tKm 2 ?_;refine tKm 3 ?_;refine tKm 4 ?_;refine tKm 6 ?_;refine rKs [5,7] ?_;refine zai.cons rfl (fun K hK=>?_) (zai.cons rfl (fun K hK=>?_) zai.nil)
  ·go_simp;go_at_call 87
   (with_reducible (refine (HD.out _ s H.out.pat).mono ?_))
   intro e wc hR;obtain ⟨a0,n0,k0,a1,n1,k1,a2,n2,k2,a3,n3,k3,a4,n4,k4,a5,n5,k5,a6,n6,k6,rfl,hX,hK,hP⟩:=PlTo.of hR;have H2:=H.out.callR hK hP hX;clear hX hK hP hR;try dsimp only
   refine hK.out _ _ ?_ (fun zH=>?_)
   ·exact ⟨H2.cell (i:=1) rfl rfl,H2.cell (i:=2) rfl rfl,H2.cell (i:=ia+3) (hA us) h2⟩
   replace zJ:=zH;clear hK K;replace H:=hid H2;clear H2;refine rK1 7 fun K hK=>?_
   rw[if_pos (by rfl)];refine H.out.o_lit1 rfl underlying52 iPl2_ rfl rfl (by decide) (by decide) rfl rfl (fun wl Cl H2=>?_);refine hK.out _ _ ?_ (fun zH=>?_)
   ·exact ⟨H2.cell (i:=2) rfl rfl,H2.cell (i:=3) rfl rfl,H2.cell (i:=ia+4) (hA us) h2⟩
   replace zJ:=zH;clear hK K;replace H:=hid H2;clear H2;refine rK1 8 fun K hK=>?_
   rw[if_pos (by rfl)];refine H.out.o_append (r:=plD zPl) rfl underlying52 iPl_ rfl (by decide) (by decide) 0 rfl rfl rfl rfl rfl 0 rfl (za7 _) (zdl _ _) (by show 1+1≤1000000;decide) (fun wl ao cap _ H2=>?_);obtain ⟨g,rfl⟩:=H2.st.someA (i:=0) rfl;refine hK.out _ _ ?_ (fun zH=>?_)
   ·exact ⟨H2.cell (i:=2) rfl rfl,H2.cell (i:=3) rfl rfl,H2.cell (i:=ia+4) (hA us) h2⟩
   replace zJ:=zH;clear hK K;replace H:=hid H2;clear H2;refine tKp 9 ?_;refine tKm 10 ?_;refine rKl 11 fun K hK=>?_
   rw[if_pos (by rfl)];refine H.out.o_store1 rfl rfl rfl (ia+4) (hA us) (by show 2<us.length;rw[HL.out];decide) sSPl_ rfl (fun wl H2=>?_);refine hK.out _ _ ?_;clear hK K;replace H:=hid H2;clear H2;refine rKd ?_;have H2:=H.out.drop (L':=(Q,[.pointer (some ⟨A,0,none⟩)])::(C,[.pointer (some ⟨B,0,none⟩)])::Lq (us.set 2 (.slice (some ⟨g,0,none⟩) 2 cap))) (by
    rw[← hset us (us.set 2 (.slice (some ⟨g,0,none⟩) 2 cap))];exact .cons _ (.cons _ (.cons_cons _ (.cons_cons _ (List.Sublist.refl _)))))
   replace H:=hid H2;clear H2;go_wp2_with (first|(refine Sr.w_put (R:=[r0]) (C:=c2) (r:=plD (partP dp s).1) H.out (by rfl) rfl 0 rfl rfl rfl rfl sPl_ (za7 _) (H.out.st.rowAt (j:=0) rfl) ?_;intro wn H2;replace H:=hid H2;clear H2)|(refine St.w_load1 (ty:=112) H.out.st (by rfl) rfl rfl 1 rfl rfl uPar_ ?_)|(go_at_call 94;(with_reducible (refine (zar (partP dp s).2 [111,110] _ B d H.out.pat).mono ?_));rintro e wc ⟨rfl,hK,hP⟩;replace H:=hid (H.out.call hK hP);clear hK hP)|(go_at_call 110;(with_reducible (refine (HG.out _ _ _ _ _ _ (HN _) H.out).mono ?_));rintro e wc ⟨rfl,v9,H2⟩;replace H:=hid H2;clear H2))
   go_end0
   rw[HF.out];dsimp only;exact ⟨rfl,g,cap,_,v9,H.out.less (by intro q hq;rcases List.mem_cons.1 hq with rfl|hq;exact yX;exact yJ _ (yJ _ hq))⟩
  ·rw[if_pos (by rfl)];refine H.out.o_lit1 rfl underlying52 iPl2_ rfl rfl (by decide) (by decide) rfl rfl (fun wl Cl H2=>?_);refine hK.out _ _ ?_ (fun zH=>?_)
   ·exact ⟨H2.cell (i:=2) rfl rfl,H2.cell (i:=3) rfl rfl,H2.cell (i:=ia+4) (hA us) h2⟩
   replace zJ:=zH;clear hK K;replace H:=hid H2;clear H2;refine rK1 5 fun K hK=>?_
   go_simp;go_at_call 87
   (with_reducible (refine (HD.out _ s H.out.pat).mono ?_))
   intro e wc hR;obtain ⟨a0,n0,k0,a1,n1,k1,a2,n2,k2,a3,n3,k3,a4,n4,k4,a5,n5,k5,a6,n6,k6,rfl,hX,hK,hP⟩:=PlTo.of hR;have H2:=H.out.callR hK hP hX;clear hX hK hP hR;try dsimp only
   refine hK.out _ _ ?_ (fun zH=>?_)
   ·exact ⟨H2.cell (i:=2) rfl rfl,H2.cell (i:=3) rfl rfl,H2.cell (i:=ia+4) (hA us) h2⟩
   replace zJ:=zH;clear hK K;replace H:=hid H2;clear H2;refine rK1 8 fun K hK=>?_
   rw[if_pos (by rfl)];refine H.out.o_append (r:=plD zPl) rfl underlying52 iPl_ rfl (by decide) (by decide) 0 rfl rfl rfl rfl rfl 0 rfl (za7 _) (zdl _ _) (by show 1+1≤1000000;decide) (fun wl ao cap _ H2=>?_);obtain ⟨g,rfl⟩:=H2.st.someA (i:=0) rfl;refine hK.out _ _ ?_ (fun zH=>?_)
   ·exact ⟨H2.cell (i:=2) rfl rfl,H2.cell (i:=3) rfl rfl,H2.cell (i:=ia+4) (hA us) h2⟩
   replace zJ:=zH;clear hK K;replace H:=hid H2;clear H2;refine tKp 9 ?_;refine tKm 10 ?_;refine rKl 11 fun K hK=>?_
   rw[if_pos (by rfl)];refine H.out.o_store1 rfl rfl rfl (ia+4) (hA us) (by show 2<us.length;rw[HL.out];decide) sSPl_ rfl (fun wl H2=>?_);refine hK.out _ _ ?_;clear hK K;replace H:=hid H2;clear H2;refine rKd ?_;have H2:=H.out.drop (L':=(Q,[.pointer (some ⟨A,0,none⟩)])::(C,[.pointer (some ⟨B,0,none⟩)])::Lq (us.set 2 (.slice (some ⟨g,0,none⟩) 2 cap))) (by
    rw[← hset us (us.set 2 (.slice (some ⟨g,0,none⟩) 2 cap))];exact .cons _ (.cons _ (.cons_cons _ (.cons_cons _ (List.Sublist.refl _)))))
   replace H:=hid H2;clear H2;go_wp2_with (first|(refine Sr.w_put (R:=[r0]) (C:=c2) (r:=plD (partP dp s).1) H.out (by rfl) rfl 0 rfl rfl rfl rfl sPl_ (za7 _) (H.out.st.rowAt (j:=0) rfl) ?_;intro wn H2;replace H:=hid H2;clear H2)|(refine St.w_load1 (ty:=112) H.out.st (by rfl) rfl rfl 1 rfl rfl uPar_ ?_)|(go_at_call 94;(with_reducible (refine (zar (partP dp s).2 [111,110] _ B d H.out.pat).mono ?_));rintro e wc ⟨rfl,hK,hP⟩;replace H:=hid (H.out.call hK hP);clear hK hP)|(go_at_call 110;(with_reducible (refine (HG.out _ _ _ _ _ _ (HN _) H.out).mono ?_));rintro e wc ⟨rfl,v9,H2⟩;replace H:=hid H2;clear H2))
   go_end0
   rw[HF.out];dsimp only;exact ⟨rfl,g,cap,_,v9,H.out.less (by intro q hq;rcases List.mem_cons.1 hq with rfl|hq;exact yX;exact yJ _ (yJ _ hq))⟩
