/- Walks: show.Query. -/
import Derived.Test.YtonkjhmkppeagaaGreatDoorCShC
import Derived.Test.YtonkjhmkppeagaaGreatDoorUQe
set_option linter.unusedVariables false
set_option linter.unusedSimpArgs false
namespace Go.Proofs.YtonkjhmkppeagaaGreatDoor.Pz
open Go.Proofs.Tryz
open Go.Lib (hid)
open Go.RowKit Go Go.Sort Ba Lx
def QTo (p:Pl) (n:Nat) (x:Int) (w:World) (e:Ending) (w':World):Prop :=
 ∃ cs,e=.returned (.tuple #[.agg cs.toArray,.int .i64 (n:Int),.int .i64 x])∧Row w' (fun b=>w.heap.size≤b) (plD p) cs∧Below w.heap.size w w'
set_option maxRecDepth 100000 in
set_option maxHeartbeats 3200000 in
theorem showQ_good (p:Pl) (hp:OkQ p) (hd:deepQ p≤31) (hlen:(textQ p).length≤16384) (T:ByteArray) (hT:(⟨(textQ p).toArray⟩:ByteArray)=T) (a0 a1 a2 a3 a4 a5 a6:Option Addr) (ac0 ac1 ac2 ac3 ac4 ac5 ac6:Nat) (w:World) (ok:Nat→Prop) (hA:PlAt w ok p a0 ac0 a1 ac1 a2 ac2 a3 ac3 a4 ac4 a5 ac5 a6 ac6) (hE:EnvX w) :
 Calls Tryz.prog 40 #[plV p a0 ac0 a1 ac1 a2 ac2 a3 ac3 a4 ac4 a5 ac5 a6 ac6] w (TextOk T w):=by
 have H:=hid (St.start (S:=fun _=>False) w);have HQ:Hid (∀ W,Below w.heap.size w W→Calls Tryz.prog 72 #[plV p a0 ac0 a1 ac1 a2 ac2 a3 ac3 a4 ac4 a5 ac5 a6 ac6] W (StrIs T W)):=fun W hW=>by
  have:=zl5 p a0 a1 a2 a3 a4 a5 a6 ac0 ac1 ac2 ac3 ac4 ac5 ac6 W ok (PlRep.below hA hW) (hE.below hW) hp (by omega);unfold StrTo at this;rw[hT]at this;exact this
 have HP:Hid (∀ W,Below w.heap.size w W→Calls Tryz.prog 30 #[.string T] W (QTo p (textQ p).length 0 W)):=fun W hW=>by
  have:=zhi T W (hE.below hW).l;rw[show T.data.toList=textQ p from by rw[← hT],queryOf_text hp hd hlen]at this;exact this
 have HEQ:Hid (∀ W b0 bc0 b1 bc1 b2 bc2 b3 bc3 b4 bc4 b5 bc5 b6 bc6 o1,Below w.heap.size w W→PlAt W o1 p b0 bc0 b1 bc1 b2 bc2 b3 bc3 b4 bc4 b5 bc5 b6 bc6→Calls Tryz.prog 31 #[plV p b0 bc0 b1 bc1 b2 bc2 b3 bc3 b4 bc4 b5 bc5 b6 bc6,plV p a0 ac0 a1 ac1 a2 ac2 a3 ac3 a4 ac4 a5 ac5 a6 ac6] W fun e w'=>e=.returned (.bool true)∧Below W.heap.size W w'):=fun W b0 bc0 b1 bc1 b2 bc2 b3 bc3 b4 bc4 b5 bc5 b6 bc6 o1 hW hB=>by
  have hA2:PlAt W ok p a0 ac0 a1 ac1 a2 ac2 a3 ac3 a4 ac4 a5 ac5 a6 ac6:=PlRep.below hA hW;exact zh2 p b0 bc0 b1 bc1 b2 bc2 b3 bc3 b4 bc4 b5 bc5 b6 bc6 a0 ac0 a1 ac1 a2 ac2 a3 ac3 a4 ac4 a5 ac5 a6 ac6 W (fun _=>True) (PlRep.weakT hB) (PlRep.weakT hA2)
 obtain ⟨L,hL⟩:∃ L:Nat,(textQ p).length=L:=⟨_,rfl⟩;rw[hL]at HP;clear hd hlen hT hA hE hL hp;go_enter func40,ntmps40
 go_wp2_with (first|(refine St.w_box (vs:=(plC p (.slice a0 p.xs.length ac0) (.slice a1 p.cond.xs.length ac1) (.slice a2 p.names.length ac2) (.slice a3 p.exprs.length ac3) (.slice a4 p.on.length ac4) (.slice a5 p.aggs.length ac5) (.slice a6 p.ord.length ac6))) H.out (by rfl) rfl rfl rfl ?_;intro wn X _ _ H2;replace H:=hid H2;clear H2)|(refine St.w_alloc (ty:=57) H.out (by rfl) rfl zPl_ rfl ?_;intro wn Cn _ _ H2;replace H:=hid H2;clear H2)|(refine St.w_load (ty:=57) H.out (by rfl) rfl rfl 0 rfl uPl_ sPl_ ?_)|(refine St.w_load (ty:=57) H.out (by rfl) rfl rfl 1 rfl uPl_ sPl_ ?_)|(refine St.w_store (ty:=57) H.out (by rfl) rfl rfl rfl 0 rfl rfl rfl sPl_ (zae rfl) ?_;intro wn _ _ H2;replace H:=hid H2;clear H2)|(go_at_call 72;(with_reducible (refine (HQ.out _ (zab H.out)).mono ?_));rintro e wc ⟨rfl,hb9⟩;replace H:=hid (H.out.below hb9);clear hb9)|(go_at_call 30;(with_reducible (refine (HP.out _ (zab H.out)).mono ?_));rintro e wc ⟨cs,rfl,hX,hb9⟩;obtain ⟨b0,bc0,b1,bc1,b2,bc2,b3,bc3,b4,bc4,b5,bc5,b6,bc6,rfl,_⟩:=zcE hX;replace H:=hid (H.out.more (H.out.below hb9) hX);clear hX hb9)|(go_at_call 31;(with_reducible (refine (HEQ.out _ b0 bc0 b1 bc1 b2 bc2 b3 bc3 b4 bc4 b5 bc5 b6 bc6 _ (zab H.out) (row_at (H.out.rowAt (j:=0) rfl))).mono ?_));rintro e wc ⟨rfl,hb9⟩;replace H:=hid (H.out.below hb9);clear hb9))
 go_ret2
 exact ⟨rfl,zab H.out⟩
end Go.Proofs.YtonkjhmkppeagaaGreatDoor.Pz
