/- Walks of layer 14's laws: the fixed answer. -/
import Derived.Test.YtonkjhmkppeagaaGreatDoorWQe
import Derived.Test.YtonkjhmkppeagaaGreatDoorWEq
set_option linter.unusedVariables false
set_option linter.unusedSimpArgs false
namespace Go.Proofs.YtonkjhmkppeagaaGreatDoor.Pz
open Go.Proofs.Tryz
open Go.Lib (hid)
open Go.RowKit Go Go.Sort Ba Lx
def awQ1:Pl:=.mk 2 [] [scanL [120]] (zaj [62] (zax [97]) (zam ⟨1,1,[]⟩)) [] [] [] [] [] 0
def awQ:Pl:=.mk 3 [] [awQ1] zEx [[98]] [zaj [42] (zax [97]) (zam ⟨1,2,[]⟩)] [] [] [] 0
def awS:Str:=[120,32,124,32,119,104,101,114,101,32,97,32,62,32,49,32,124,32,107,101,101,112,32,97,32,42,32,50,32,97,115,32,98]
theorem ztN:zdn awS=(awQ,33,0):=by kernel_rfl
def QTo4 (p:Pl) (n:Nat) (x:Int) (w:World) (e:Ending) (w':World):Prop :=
 ∃ cs,e=.returned (.tuple #[.agg cs.toArray,.int .i64 (n:Int),.int .i64 x])∧Row w' (fun b=>w.heap.size≤b) (plD p) cs∧Below w.heap.size w w'
set_option maxRecDepth 100000 in
set_option maxHeartbeats 1600000 in
theorem zhq (w:World) (hE:EnvL w):Calls Tryz.prog 23 #[] w (EqTo w true):=by
 have HP:Hid (Calls Tryz.prog 30 #[.string ⟨#[120,32,124,32,119,104,101,114,101,32,97,32,62,32,49,32,124,32,107,101,101,112,32,97,32,42,32,50,32,97,115,32,98]⟩] w (QTo4 awQ 33 0 w)):=by
  have:=zhG ⟨#[120,32,124,32,119,104,101,114,101,32,97,32,62,32,49,32,124,32,107,101,101,112,32,97,32,42,32,50,32,97,115,32,98]⟩ w hE;rw[show (⟨#[120,32,124,32,119,104,101,114,101,32,97,32,62,32,49,32,124,32,107,101,101,112,32,97,32,42,32,50,32,97,115,32,98]⟩:ByteArray).data.toList=awS from rfl,ztN]at this;exact this
 have H:=hid (St.start (S:=fun _=>False) w);clear hE;go_enter func23,ntmps23
 go_upto_region 2 with (first|(refine St.w_alloc (ty:=57) H.out (by rfl) rfl zPl_ rfl ?_;intro wn C _ _ H2;replace H:=hid H2;clear H2)|(refine St.w_store (ty:=57) H.out (by rfl) rfl rfl rfl 0 rfl rfl rfl sPl_ (zad rfl) ?_;intro wn _ _ H2;replace H:=hid H2;clear H2)|(go_at_call 30;(with_reducible (refine HP.out.mono ?_));rintro e wc ⟨cs,rfl,hX,hb9⟩;obtain ⟨a0,ac0,a1,ac1,a2,ac2,a3,ac3,a4,ac4,a5,ac5,a6,ac6,rfl,_⟩:=zcb hX;replace H:=hid (H.out.more (H.out.below hb9) hX);clear hX hb9))
 have hrow:=H.out.rowAt (j:=0) rfl;obtain ⟨_,_,_,_,_,_,_,_,_,_,_,_,_,_,e1,hp⟩:=zcb hrow;have x0:=(H.out.at (i:=0) rfl).cl 0 _ rfl;have x2:=(H.out.at (i:=0) rfl).cl 2 _ rfl;injection e1 with _ e1
 injection e1 with _ e1
 injection e1 with e1 _
 injection e1 with e1 _ e3
 subst e1 e3;obtain ⟨b,o,b0,bc0,b1,bc1,b2,bc2,b3,bc3,b4,bc4,b5,bc5,b6,bc6,rfl,_,_,hq,hc⟩:=arg16 (i:=0) (x:=awQ1) hp.args rfl;obtain ⟨d,u,d0,dc0,d1,dc1,d2,dc2,d3,dc3,d4,dc4,d5,dc5,d6,dc6,rfl,_,_,_,hd⟩:=arg16 (i:=0) (x:=scanL [120]) hq.args rfl;have y0:=hc 0 _ rfl;have y2:=hc 2 _ rfl;have z1:=hd 1 _ rfl;change _=some (Value.int .i64 3) at x0
 change _=some (Value.slice (some ⟨b,o,none⟩) 1 ac0) at x2
 change _=some (Value.int .i64 2) at y0
 change _=some (Value.slice (some ⟨d,u,none⟩) 1 bc0) at y2
 change _=some (Value.string ⟨#[120]⟩) at z1
 simp only[Nat.zero_mul,Nat.add_zero]at y0 y2 z1;clear hc hd hq hp hrow;go_wp2_with fail
 go_ret
 exact ⟨rfl,zac H.out⟩
