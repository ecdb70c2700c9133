/- Walks: the text of a step, of a plan. -/
import Derived.Test.YtonkjhmkppeagaaGreatDoorVWords
set_option linter.unusedVariables false
set_option linter.unusedSimpArgs false
namespace Go.Proofs.YtonkjhmkppeagaaGreatDoor.Pz
open Go.Proofs.Tryz
open Go.RowKit Go Go.Sort Ba Lx
theorem zg1 (sep:Str):∀ (l:List Str) (a:Str),a∈l→a.length≤(joinS sep l).length
 | [b],a,h=>by simp at h;subst h;exact yG _
 | b::c::r,a,h=>by
  show a.length≤(b++(sep++joinS sep (c::r))).length
  rw[yA,yA];rcases List.mem_cons.1 h with rfl|h
  ·omega
  ·have:=zg1 sep (c::r) a h;omega
theorem zfU {l:List Str} {a:Str} (h:a∈l):a.length≤(zaC l).length:=by
 by_cases ha:a=[]
 ·rw[ha];exact yS _
 ·exact zg1 [32] _ a (List.mem_filter.2 ⟨h,by simpa using ha⟩)
