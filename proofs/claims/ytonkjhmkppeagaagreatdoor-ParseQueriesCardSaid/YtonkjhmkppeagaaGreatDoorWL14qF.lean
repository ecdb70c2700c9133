/- A query written step by step that is an argument, opened. -/
import Derived.Test.YtonkjhmkppeagaaGreatDoorWOpenS
import Derived.Test.YtonkjhmkppeagaaGreatDoorWL14q
set_option linter.unusedVariables false
set_option linter.unusedSimpArgs false
namespace Go.Proofs.YtonkjhmkppeagaaGreatDoor.Pz
open Go.Proofs.Tryz
open Go.RowKit Go Ba Lx
theorem zr8 {d:Dat} (h:Fit (.sl [.i]) d):∃ l:List Int,d=.sl 1 (l.map fun k=>[dI k]):=by
 cases h with
 | sl _ rows h0 h =>
  have hx:∃ l:List Int,rows=l.map fun k=>[dI k]:=by
   induction rows with
   | nil=>exact ⟨[],rfl⟩
   | cons r rows ih =>
    obtain ⟨l,rfl⟩:=ih (fun r hr=>h0 r (yJ _ hr)) (fun r hr=>h r (yJ _ hr));have hr0:=h0 r yX;have hr1:=h r yX;match r,hr0,hr1 with
    | [d],_,hr1 =>
     have h1:=hr1 0 .i d rfl rfl
     cases h1 with
     | i a _=>exact ⟨a::l,rfl⟩
  obtain ⟨l,rfl⟩:=hx;exact ⟨l,rfl⟩
theorem steps_arg {W:World} {ds:List Dat} {cs:List Value} (h:FitR [.s,.sl [.i],.sl [.s],.i] ds) (hR:Row W (fun _=>True) ds cs) :
 ∃ (n:ByteArray) (ks:List Int) (l:List Str) (N:Int) (ka na:Option Addr) (kc nc:Nat),cs=[.string n,.slice ka ks.length kc,.slice na l.length nc,.int .i64 N]∧n.size≤9223372036854775807∧N≤9223372036854775807∧(∀ s∈l,s.length≤9223372036854775807)∧
  Rep W (fun _=>True) (.sl 1 (ks.map fun k=>[dI k])) (.slice ka ks.length kc)∧Rep W (fun _=>True) (.sl 1 (l.map strD)) (.slice na l.length nc):=by
 obtain ⟨d0,q,rfl,f0,h⟩:=h.cons;obtain ⟨d1,q,rfl,f1,h⟩:=h.cons;obtain ⟨d2,q,rfl,f2,h⟩:=h.cons;obtain ⟨d3,q,rfl,f3,h⟩:=h.cons;obtain rfl:=h.done;obtain ⟨c0,r0,rfl,e0,hR⟩:=hR.uncons;obtain ⟨c1,r1,rfl,e1,hR⟩:=hR.uncons;obtain ⟨c2,r2,rfl,e2,hR⟩:=hR.uncons;obtain ⟨c3,r3,rfl,e3,hR⟩:=hR.uncons;obtain rfl:=hR.unnil;obtain ⟨l,na,nc,rfl,hl,hRl⟩:=zkp f2 e2;obtain ⟨ks,rfl⟩:=zr8 f1;obtain ⟨ka,kc,rfl,_,_⟩:=e1.len;rw[yC]at e1 ⊢
 cases f0 with
 | s t ht =>
  cases f3 with
  | i N hN =>
   rw[e0.val,e3.val];exact ⟨_,ks,l,N,ka,na,kc,nc,rfl,by show t.toArray.size≤_;rw[List.size_toArray];exact ht,hN.2,hl,e1,hRl⟩
