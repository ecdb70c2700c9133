/- Walks: the law on the texts of queries. -/
import Derived.Test.YtonkjhmkppeagaaGreatDoorShD
import Derived.Test.YtonkjhmkppeagaaGreatDoorMShW
set_option linter.unusedVariables false
set_option linter.unusedSimpArgs false
namespace Go.Proofs.YtonkjhmkppeagaaGreatDoor.Pz
open Go.RowKit Go Go.Sort Ba Lx
theorem RdT.rem {r:List UInt8} {ts:List Tk} (h:RdT (r.drop (Lx.runN notNl r)) ts):RdT (35 :: r) ts:=fun p => by
 obtain ⟨ts',q,e,hs⟩:=h (p + 1 + Lx.runN notNl r)
 exact ⟨ts',q,by rw [lex_rem];exact e,hs⟩
def brS (t:Str):Str:=[10,40] ++ (t ++ [32,35,32,114,101,109,97,114,107,10,41,32])
theorem rd_br {p:Pl} (ok:OkQ p):RdT (brS (textQ p)) ((4,[40],0) :: (tkQ p ++ [(4,[41],0)])):=by
 have h0:RdT [32] []:=RdT.nil.ws (by decide)
 have h1:RdT [41,32] [(4,[41],0)]:=RdT.sign (x:=[41]) (by decide) (by decide) (by decide) h0
 have h2:RdT [10,41,32] [(4,[41],0)]:=h1.ws (by decide)
 have h3:RdT [35,32,114,101,109,97,114,107,10,41,32] [(4,[41],0)]:=RdT.rem (r:=[32,114,101,109,97,114,107,10,41,32]) (by
  rw [show Lx.runN notNl [32,114,101,109,97,114,107,10,41,32] = 7 from by decide]
  exact h2)
 have h4:RdT [32,35,32,114,101,109,97,114,107,10,41,32] [(4,[41],0)]:=h3.ws (by decide)
 have h5:=wrQ_all p ok _ _ h4 (cl_one (by decide) (by decide))
 have h6:RdT ([40] ++ (textQ p ++ [32,35,32,114,101,109,97,114,107,10,41,32])) ((4,[40],0) :: (tkQ p ++ [(4,[41],0)])):=RdT.sign (x:=[40]) (by decide) (by decide) (by decide) h5
 exact h6.ws (c:=10) (by decide)
theorem brS_len (t:Str):(brS t).length = t.length + 14:=by unfold brS;simp
set_option maxRecDepth 100000 in
set_option maxHeartbeats 3200000 in
theorem showQueries_law (s:ByteArray) (w:World) (hE:EnvX w):Calls Tryz.prog 10 #[.string s] w fun e w' => e = .returned (.bool true) ∧ Below w.heap.size w w':=by
 have HE:=Lib.hid (fun W (hb:Below w.heap.size w W) => hE.below hb)
 have H:=Lib.hid (St.start (S:=fun _ => False) w)
 by_cases hsz:(1000:Int) < (s.size:Int)
 ·clear hE
  go_enter Tryz.func10,Tryz.ntmps10
  go_wp2_with (go_at_call 14;(with_reducible (refine (awake_any _ (HE.out _ (st_bel H.out))).mono ?_));rintro e wc ⟨rfl,hb9⟩;have H2:=H.out.below hb9;clear hb9;replace H:=Lib.hid H2;clear H2)
  go_ret
  exact ⟨rfl,st_bel H.out⟩
 obtain ⟨r,hr⟩:∃ r,queryOf s.data.toList = r:=⟨_,rfl⟩
 have HP:Hid (∀ W,Below w.heap.size w W → Calls Tryz.prog 30 #[.string s] W (QTo r.1 r.2.1 r.2.2 W)):=fun W hW => by
  have:=query_of s W (hE.below hW).l
  rw [hr] at this
  exact this
 obtain ⟨p,at0,er⟩:=r
 simp only at HP
 by_cases he:er = 0
 ·subst he
  have hsl:s.data.toList.length ≤ 1000:=by have:s.data.toList.length = s.size:=rfl;omega
  obtain ⟨hp,hd,hlen,_⟩:=queryOf_ok (l:=s.data.toList) (by rw [hr])
  rw [hr] at hp hd hlen
  simp only at hp hd hlen
  obtain ⟨T,hT⟩:∃ T:ByteArray,(⟨(textQ p).toArray⟩:ByteArray) = T:=⟨_,rfl⟩
  have hTs:T.size ≤ 4000:=by rw [← hT,sz_mk];omega
  have HP2:Hid (∀ W,Below w.heap.size w W → Calls Tryz.prog 30 #[.string T] W (QTo p (textQ p).length 0 W)):=fun W hW => by
   have:=query_of T W (hE.below hW).l
   rw [show T.data.toList = textQ p from by rw [← hT],queryOf_text hp hd (by omega)] at this
   exact this
  have hbr:((⟨#[10,40]⟩ ++ T) ++ ⟨#[32,35,32,114,101,109,97,114,107,10,41,32]⟩:ByteArray) = ⟨(brS (textQ p)).toArray⟩:=by
   rw [← hT]
   show ((⟨([10,40]:Str).toArray⟩:ByteArray) ++ ⟨(textQ p).toArray⟩) ++ ⟨([32,35,32,114,101,109,97,114,107,10,41,32]:Str).toArray⟩ = _
   rw [app_mk,app_mk]
   congr 2
  have hbb:=brackets_back hp (rd_br hp) (by rw [brS_len];omega)
  have HS:Hid (∀ W a0 ac0 a1 ac1 a2 ac2 a3 ac3 a4 ac4 a5 ac5 a6 ac6 ok,Below w.heap.size w W → PlAt W ok p a0 ac0 a1 ac1 a2 ac2 a3 ac3 a4 ac4 a5 ac5 a6 ac6 → Calls Tryz.prog 40 #[plV p a0 ac0 a1 ac1 a2 ac2 a3 ac3 a4 ac4 a5 ac5 a6 ac6] W (TextOk T W)):=fun W a0 ac0 a1 ac1 a2 ac2 a3 ac3 a4 ac4 a5 ac5 a6 ac6 ok hW hA => showQ_good p hp hd (by omega) T hT a0 a1 a2 a3 a4 a5 a6 ac0 ac1 ac2 ac3 ac4 ac5 ac6 W ok hA (hE.below hW)
  have HEQ:Hid (∀ W b0 bc0 b1 bc1 b2 bc2 b3 bc3 b4 bc4 b5 bc5 b6 bc6 a0 ac0 a1 ac1 a2 ac2 a3 ac3 a4 ac4 a5 ac5 a6 ac6 o1 o2,Below w.heap.size w W → PlAt W o1 p b0 bc0 b1 bc1 b2 bc2 b3 bc3 b4 bc4 b5 bc5 b6 bc6 → PlAt W o2 p a0 ac0 a1 ac1 a2 ac2 a3 ac3 a4 ac4 a5 ac5 a6 ac6 → Calls Tryz.prog 31 #[plV p b0 bc0 b1 bc1 b2 bc2 b3 bc3 b4 bc4 b5 bc5 b6 bc6,plV p a0 ac0 a1 ac1 a2 ac2 a3 ac3 a4 ac4 a5 ac5 a6 ac6] W fun e w' => e = .returned (.bool true) ∧ Below W.heap.size W w'):=fun W b0 bc0 b1 bc1 b2 bc2 b3 bc3 b4 bc4 b5 bc5 b6 bc6 a0 ac0 a1 ac1 a2 ac2 a3 ac3 a4 ac4 a5 ac5 a6 ac6 o1 o2 hW hB hA => planT_any p b0 bc0 b1 bc1 b2 bc2 b3 bc3 b4 bc4 b5 bc5 b6 bc6 a0 ac0 a1 ac1 a2 ac2 a3 ac3 a4 ac4 a5 ac5 a6 ac6 W (fun _ => True) (PlRep.weakT hB) (PlRep.weakT hA)
  obtain ⟨L,hL⟩:∃ L:Nat,(textQ p).length = L:=⟨_,rfl⟩
  rw [hL] at HP2
  by_cases hdd:deepQ p ≤ 30
  ·have HP3:Hid (∀ W,Below w.heap.size w W → Calls Tryz.prog 30 #[.string ((⟨#[10,40]⟩ ++ T) ++ ⟨#[32,35,32,114,101,109,97,114,107,10,41,32]⟩)] W (QTo p (brS (textQ p)).length 0 W)):=fun W hW => by
    have:=query_of ((⟨#[10,40]⟩ ++ T) ++ ⟨#[32,35,32,114,101,109,97,114,107,10,41,32]⟩) W (hE.below hW).l
    rw [hbr,list_mk,hbb.1 hdd,← hbr] at this
    exact this
   obtain ⟨L2,hL2⟩:∃ L:Nat,(brS (textQ p)).length = L:=⟨_,rfl⟩
   rw [hL2] at HP3
   clear hE hr hsl hp hd hlen hT hbr hbb hL hdd hL2
   go_enter Tryz.func10,Tryz.ntmps10
   go_wp2_with (first | (go_at_call 30;(with_reducible (refine (HP.out _ (st_bel H.out)).mono ?_));rintro e wc ⟨cs,rfl,hX,hb9⟩;obtain ⟨a0,ac0,a1,ac1,a2,ac2,a3,ac3,a4,ac4,a5,ac5,a6,ac6,rfl,_⟩:=row_plAt hX;have H2:=H.out.more (H.out.below hb9) hX;clear hX hb9;replace H:=Lib.hid H2;clear H2) | (go_at_call 30;(with_reducible (refine (HP2.out _ (st_bel H.out)).mono ?_));rintro e wc ⟨cs,rfl,hX,hb9⟩;obtain ⟨b0,bc0,b1,bc1,b2,bc2,b3,bc3,b4,bc4,b5,bc5,b6,bc6,rfl,_⟩:=row_plAt hX;have H2:=H.out.more (H.out.below hb9) hX;clear hX hb9;replace H:=Lib.hid H2;clear H2) | (go_at_call 30;(with_reducible (refine (HP3.out _ (st_bel H.out)).mono ?_));rintro e wc ⟨cs,rfl,hX,hb9⟩;obtain ⟨c0,cc0,c1,cc1,c2,cc2,c3,cc3,c4,cc4,c5,cc5,c6,cc6,rfl,_⟩:=row_plAt hX;have H2:=H.out.more (H.out.below hb9) hX;clear hX hb9;replace H:=Lib.hid H2;clear H2) | (refine St.w_alloc (ty:=57) H.out (by rfl) rfl zPl_ rfl ?_;intro wn Cn _ _ H2;replace H:=Lib.hid H2;clear H2) | (refine St.w_store (ty:=57) H.out (by rfl) rfl rfl rfl 0 rfl rfl rfl sPl_ (all_one rfl) ?_;intro wn _ _ H2;replace H:=Lib.hid H2;clear H2) | (first | (refine St.w_load (ty:=57) H.out (by rfl) rfl rfl 0 rfl uPl_ sPl_ ?_) | (refine St.w_load (ty:=57) H.out (by rfl) rfl rfl 1 rfl uPl_ sPl_ ?_) | (refine St.w_load (ty:=57) H.out (by rfl) rfl rfl 2 rfl uPl_ sPl_ ?_)) | (go_at_call 40;(with_reducible (refine (HS.out _ a0 ac0 a1 ac1 a2 ac2 a3 ac3 a4 ac4 a5 ac5 a6 ac6 _ (st_bel H.out) (row_at (H.out.rowAt (j:=0) rfl))).mono ?_));rintro e wc ⟨rfl,hb9⟩;have H2:=H.out.below hb9;clear hb9;replace H:=Lib.hid H2;clear H2) | (go_at_call 40;(with_reducible (refine (HS.out _ c0 cc0 c1 cc1 c2 cc2 c3 cc3 c4 cc4 c5 cc5 c6 cc6 _ (st_bel H.out) (row_at (H.out.rowAt (j:=0) rfl))).mono ?_));rintro e wc ⟨rfl,hb9⟩;have H2:=H.out.below hb9;clear hb9;replace H:=Lib.hid H2;clear H2) | (go_at_call 31;(with_reducible (refine (HEQ.out _ b0 bc0 b1 bc1 b2 bc2 b3 bc3 b4 bc4 b5 bc5 b6 bc6 a0 ac0 a1 ac1 a2 ac2 a3 ac3 a4 ac4 a5 ac5 a6 ac6 _ _ (st_bel H.out) (row_at (H.out.rowAt (j:=0) rfl)) (row_at (H.out.rowAt (j:=1) rfl))).mono ?_));rintro e wc ⟨rfl,hb9⟩;have H2:=H.out.below hb9;clear hb9;replace H:=Lib.hid H2;clear H2) | (go_at_call 14;(with_reducible (refine (awake_any _ (HE.out _ (st_bel H.out))).mono ?_));rintro e wc ⟨rfl,hb9⟩;have H2:=H.out.below hb9;clear hb9;replace H:=Lib.hid H2;clear H2))
   go_ret
   exact ⟨rfl,st_bel H.out⟩
  ·obtain ⟨r3,hr3⟩:∃ r,queryOf (brS (textQ p)) = r:=⟨_,rfl⟩
   have h52:=hbb.2 hdd
   have HP3:Hid (∀ W,Below w.heap.size w W → Calls Tryz.prog 30 #[.string ((⟨#[10,40]⟩ ++ T) ++ ⟨#[32,35,32,114,101,109,97,114,107,10,41,32]⟩)] W (QTo r3.1 r3.2.1 r3.2.2 W)):=fun W hW => by
    have:=query_of ((⟨#[10,40]⟩ ++ T) ++ ⟨#[32,35,32,114,101,109,97,114,107,10,41,32]⟩) W (hE.below hW).l
    rw [hbr,list_mk,hr3,← hbr] at this
    exact this
   rw [hr3] at h52
   obtain ⟨p3,at3,e3⟩:=r3
   simp only at h52 HP3
   subst h52
   clear hE hr hsl hp hd hlen hT hbr hbb hL hdd hr3
   go_enter Tryz.func10,Tryz.ntmps10
   go_wp2_with (first | (go_at_call 30;(with_reducible (refine (HP.out _ (st_bel H.out)).mono ?_));rintro e wc ⟨cs,rfl,hX,hb9⟩;obtain ⟨a0,ac0,a1,ac1,a2,ac2,a3,ac3,a4,ac4,a5,ac5,a6,ac6,rfl,_⟩:=row_plAt hX;have H2:=H.out.more (H.out.below hb9) hX;clear hX hb9;replace H:=Lib.hid H2;clear H2) | (go_at_call 30;(with_reducible (refine (HP2.out _ (st_bel H.out)).mono ?_));rintro e wc ⟨cs,rfl,hX,hb9⟩;obtain ⟨b0,bc0,b1,bc1,b2,bc2,b3,bc3,b4,bc4,b5,bc5,b6,bc6,rfl,_⟩:=row_plAt hX;have H2:=H.out.more (H.out.below hb9) hX;clear hX hb9;replace H:=Lib.hid H2;clear H2) | (go_at_call 30;(with_reducible (refine (HP3.out _ (st_bel H.out)).mono ?_));rintro e wc ⟨cs,rfl,hX,hb9⟩;obtain ⟨c0,cc0,c1,cc1,c2,cc2,c3,cc3,c4,cc4,c5,cc5,c6,cc6,rfl,_⟩:=row_plAt hX;have H2:=H.out.more (H.out.below hb9) hX;clear hX hb9;replace H:=Lib.hid H2;clear H2) | (refine St.w_alloc (ty:=57) H.out (by rfl) rfl zPl_ rfl ?_;intro wn Cn _ _ H2;replace H:=Lib.hid H2;clear H2) | (refine St.w_store (ty:=57) H.out (by rfl) rfl rfl rfl 0 rfl rfl rfl sPl_ (all_one rfl) ?_;intro wn _ _ H2;replace H:=Lib.hid H2;clear H2) | (first | (refine St.w_load (ty:=57) H.out (by rfl) rfl rfl 0 rfl uPl_ sPl_ ?_) | (refine St.w_load (ty:=57) H.out (by rfl) rfl rfl 1 rfl uPl_ sPl_ ?_) | (refine St.w_load (ty:=57) H.out (by rfl) rfl rfl 2 rfl uPl_ sPl_ ?_)) | (go_at_call 40;(with_reducible (refine (HS.out _ a0 ac0 a1 ac1 a2 ac2 a3 ac3 a4 ac4 a5 ac5 a6 ac6 _ (st_bel H.out) (row_at (H.out.rowAt (j:=0) rfl))).mono ?_));rintro e wc ⟨rfl,hb9⟩;have H2:=H.out.below hb9;clear hb9;replace H:=Lib.hid H2;clear H2) | (go_at_call 31;(with_reducible (refine (HEQ.out _ b0 bc0 b1 bc1 b2 bc2 b3 bc3 b4 bc4 b5 bc5 b6 bc6 a0 ac0 a1 ac1 a2 ac2 a3 ac3 a4 ac4 a5 ac5 a6 ac6 _ _ (st_bel H.out) (row_at (H.out.rowAt (j:=0) rfl)) (row_at (H.out.rowAt (j:=1) rfl))).mono ?_));rintro e wc ⟨rfl,hb9⟩;have H2:=H.out.below hb9;clear hb9;replace H:=Lib.hid H2;clear H2) | (go_at_call 14;(with_reducible (refine (awake_any _ (HE.out _ (st_bel H.out))).mono ?_));rintro e wc ⟨rfl,hb9⟩;have H2:=H.out.below hb9;clear hb9;replace H:=Lib.hid H2;clear H2))
   go_ret
   exact ⟨rfl,st_bel H.out⟩
 ·have hne:(er != 0) = true:=by simpa using he
  have heq:(er == 0) = false:=by simpa using he
  clear hE hr he
  go_enter Tryz.func10,Tryz.ntmps10
  go_wp2_with (first | (go_at_call 30;(with_reducible (refine (HP.out _ (st_bel H.out)).mono ?_));rintro e wc ⟨cs,rfl,hX,hb9⟩;obtain ⟨a0,ac0,a1,ac1,a2,ac2,a3,ac3,a4,ac4,a5,ac5,a6,ac6,rfl,_⟩:=row_plAt hX;have H2:=H.out.more (H.out.below hb9) hX;clear hX hb9;replace H:=Lib.hid H2;clear H2) | (refine St.w_alloc (ty:=57) H.out (by rfl) rfl zPl_ rfl ?_;intro wn Cn _ _ H2;replace H:=Lib.hid H2;clear H2) | (refine St.w_store (ty:=57) H.out (by rfl) rfl rfl rfl 0 rfl rfl rfl sPl_ (all_one rfl) ?_;intro wn _ _ H2;replace H:=Lib.hid H2;clear H2) | (go_at_call 14;(with_reducible (refine (awake_any _ (HE.out _ (st_bel H.out))).mono ?_));rintro e wc ⟨rfl,hb9⟩;have H2:=H.out.below hb9;clear hb9;replace H:=Lib.hid H2;clear H2))
  go_ret
  exact ⟨rfl,st_bel H.out⟩
end Go.Proofs.YtonkjhmkppeagaaGreatDoor.Pz
