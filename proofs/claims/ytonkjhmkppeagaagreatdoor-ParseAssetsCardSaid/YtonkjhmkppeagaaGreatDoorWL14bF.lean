/- An asset that is an argument, opened. -/
import Derived.Test.YtonkjhmkppeagaaGreatDoorWOpenS
import Derived.Test.YtonkjhmkppeagaaGreatDoorWLb
set_option linter.unusedVariables false
set_option linter.unusedSimpArgs false
namespace Go.Proofs.YtonkjhmkppeagaaGreatDoor.Pz
open Go.Proofs.Tryz
open Go.RowKit Go Ba Lx
theorem zrW {d:Dat} (h:Fit (.sl [.i,.i]) d):∃ l:List (Int×Int),d=.sl 2 (l.map mapD):=by
 cases h with
 | sl _ rows h0 h =>
  have hx:∃ l:List (Int×Int),rows=l.map mapD:=by
   induction rows with
   | nil=>exact ⟨[],rfl⟩
   | cons r rows ih =>
    obtain ⟨l,rfl⟩:=ih (fun r hr=>h0 r (yJ _ hr)) (fun r hr=>h r (yJ _ hr));have hr0:=h0 r yX;have hr1:=h r yX;match r,hr0,hr1 with
    | [d,e],_,hr1 =>
     have h1:=hr1 0 .i d rfl rfl;have h2:=hr1 1 .i e rfl rfl
     cases h1 with
     | i a _ =>
      cases h2 with
      | i b _=>exact ⟨(a,b)::l,rfl⟩
  obtain ⟨l,rfl⟩:=hx;exact ⟨l,rfl⟩
theorem asset_arg {W:World} {ds:List Dat} {cs:List Value} (h:FitR [.s,.i,.i,.i,.sl [.s],.sl [.i,.i]] ds) (hR:Row W (fun _=>True) ds cs) :
 ∃ (n:ByteArray) (K A B:Int) (l:List Str) (ms:List (Int×Int)) (fa ma:Option Addr) (fc mc:Nat),cs=[.string n,.int .i64 K,.int .i64 A,.int .i64 B,.slice fa l.length fc,.slice ma ms.length mc]∧n.size≤9223372036854775807∧A≤9223372036854775807∧B≤9223372036854775807∧(∀ s∈l,s.length≤9223372036854775807)∧
  Rep W (fun _=>True) (.sl 1 (l.map strD)) (.slice fa l.length fc)∧Rep W (fun _=>True) (.sl 2 (ms.map mapD)) (.slice ma ms.length mc):=by
 obtain ⟨d0,q,rfl,f0,h⟩:=h.cons;obtain ⟨d1,q,rfl,f1,h⟩:=h.cons;obtain ⟨d2,q,rfl,f2,h⟩:=h.cons;obtain ⟨d3,q,rfl,f3,h⟩:=h.cons;obtain ⟨d4,q,rfl,f4,h⟩:=h.cons;obtain ⟨d5,q,rfl,f5,h⟩:=h.cons;obtain rfl:=h.done;obtain ⟨c0,r0,rfl,e0,hR⟩:=hR.uncons;obtain ⟨c1,r1,rfl,e1,hR⟩:=hR.uncons;obtain ⟨c2,r2,rfl,e2,hR⟩:=hR.uncons;obtain ⟨c3,r3,rfl,e3,hR⟩:=hR.uncons;obtain ⟨c4,r4,rfl,e4,hR⟩:=hR.uncons;obtain ⟨c5,r5,rfl,e5,hR⟩:=hR.uncons;obtain rfl:=hR.unnil;obtain ⟨l,fa,fc,rfl,hl,hRl⟩:=zkp f4 e4;obtain ⟨ms,rfl⟩:=zrW f5;obtain ⟨ma,mc,rfl,_,_⟩:=e5.len;rw[yC]at e5 ⊢
 cases f0 with
 | s t ht =>
  cases f1 with
  | i K hK =>
   cases f2 with
   | i A hA =>
    cases f3 with
    | i B hB =>
     rw[e0.val,e1.val,e2.val,e3.val];exact ⟨_,K,A,B,l,ms,fa,ma,fc,mc,rfl,by show t.toArray.size≤_;rw[List.size_toArray];exact ht,hA.2,hB.2,hl,hRl,e5⟩
