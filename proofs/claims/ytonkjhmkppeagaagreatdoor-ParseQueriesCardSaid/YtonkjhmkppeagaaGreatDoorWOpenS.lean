/- Arguments that are slices of texts, opened. -/
import Derived.Test.YtonkjhmkppeagaaGreatDoorWOpen
set_option linter.unusedVariables false
set_option linter.unusedSimpArgs false
namespace Go.Proofs.YtonkjhmkppeagaaGreatDoor.Pz
open Go.Proofs.Tryz
open Go.RowKit Go Ba Lx
theorem zrm {d:Dat} (h:Fit (.sl [.s]) d):∃ l:List Str,d=.sl 1 (l.map strD)∧∀ s∈l,s.length≤maxLen:=by
 cases h with
 | sl _ rows h0 h =>
  have hx:∃ l:List Str,rows=l.map strD∧∀ s∈l,s.length≤maxLen:=by
   induction rows with
   | nil=>exact ⟨[],rfl,fun s hs=>by cases hs⟩
   | cons r rows ih =>
    obtain ⟨l,rfl,hl⟩:=ih (fun r hr=>h0 r (yJ _ hr)) (fun r hr=>h r (yJ _ hr));have hr0:=h0 r yX;have hr1:=h r yX;match r,hr0,hr1 with
    | [d],_,hr1 =>
     have h1:=hr1 0 .s d rfl rfl
     cases h1 with
     | s t ht =>
      refine ⟨t::l,rfl,fun s hs=>?_⟩;rcases List.mem_cons.1 hs with rfl|hs
      ·exact ht
      ·exact hl s hs
  obtain ⟨l,rfl,hl⟩:=hx;exact ⟨l,rfl,hl⟩
theorem zkp {W:World} {d:Dat} {v:Value} (h:Fit (.sl [.s]) d) (hR:Rep W (fun _=>True) d v):∃ (l:List Str) (sa:Option Addr) (ca:Nat),v=.slice sa l.length ca∧(∀ s∈l,s.length≤9223372036854775807)∧Rep W (fun _=>True) (.sl 1 (l.map strD)) (.slice sa l.length ca):=by
 obtain ⟨l,rfl,hl⟩:=zrm h;obtain ⟨sa,ca,rfl,_,_⟩:=hR.len;rw[yC]at hR ⊢;exact ⟨l,sa,ca,rfl,hl,hR⟩
