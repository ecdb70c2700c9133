/- Rows of cells, loaded out of a call's own variables. No function of the program in sight. -/
import Derived.Test.YtonkjhmkppeagaaGreatDoorWLp
import Derived.Test.YtonkjhmkppeagaaGreatDoorWTk
set_option linter.unusedVariables false
namespace Go.Proofs.YtonkjhmkppeagaaGreatDoor.Pz
open Go.Proofs.Tryz
open Go.RowKit Go Ba Lx
theorem ztM {W:World} {b p:Nat} {x y:Value} (h0:W.cell? ⟨b,p,none⟩=some x) (h1:W.cell? ⟨b,p+1,none⟩=some y):∀ (j:Nat) (v:Value),[x,y][j]?=some v→W.cell? ⟨b,p+j,none⟩=some v
 | 0,v,h=>by simp only[List.getElem?_cons_zero,Option.some.injEq]at h;subst h;exact h0
 | 1,v,h=>by simp only[List.getElem?_cons_succ,List.getElem?_cons_zero,Option.some.injEq]at h;subst h;exact h1
 | j+2,v,h=>by simp at h
theorem ztL {W:World} {b:Nat} {x y z:Value} (h0:W.cell? ⟨b,0,none⟩=some x) (h1:W.cell? ⟨b,1,none⟩=some y) (h2:W.cell? ⟨b,2,none⟩=some z):∀ (j:Nat) (v:Value),[x,y,z][j]?=some v→W.cell? ⟨b,0+j,none⟩=some v
 | 0,v,h=>by simp only[List.getElem?_cons_zero,Option.some.injEq]at h;subst h;exact h0
 | 1,v,h=>by simp only[List.getElem?_cons_succ,List.getElem?_cons_zero,Option.some.injEq]at h;subst h;exact h1
 | 2,v,h=>by simp only[List.getElem?_cons_succ,List.getElem?_cons_zero,Option.some.injEq]at h;subst h;exact h2
 | j+3,v,h=>by simp at h
theorem St.sub {S:Nat→Prop} {w0 w:World} {L:List Bx} {D:List (List Dat×List Value)} {O:List Ow} (h:St S w0 w L D O) {i C:Nat} {us:List Value} (hi:L[i]?=some (C,us)) (p:Nat) {vs:List Value} (hv:(us.drop p).take vs.length=vs):∀ (j:Nat) (v:Value),vs[j]?=some v→w.cell? ⟨C,p+j,none⟩=some v:=fun j v hj=>(h.at hi).cl _ _ (zil hv hj)
theorem zkw {W:World} {ok:Nat→Prop} {f0:Str} {v:Value} (h:Rep W ok (.sl 16 [plD (scanL f0)]) v):Row W ok (plD (distL f0)) [.int .i64 8,.string ⟨#[]⟩,v,.int .i64 0,.string ⟨#[]⟩,.int .i64 0,.int .i64 0,.string ⟨#[]⟩,.string ⟨#[]⟩,.slice none 0 0,.slice none 0 0,.slice none 0 0,.slice none 0 0,.slice none 0 0,.slice none 0 0,.int .i64 0]:=by
 have e:plD (distL f0)=[dI 8,dS [],.sl 16 [plD (scanL f0)],dI 0,dS [],dI 0,dI 0,dS [],dS [],.sl 7 [],.sl 1 [],.sl 7 [],.sl 2 [],.sl 3 [],.sl 2 [],dI 0]:=by
  rw[ziF];show [dI 8,dS [],Dat.sl 16 (plDs [scanL f0]),dI 0,dS [],dI 0,dI 0,dS [],dS [],.sl 7 (exDs []),.sl 1 [],.sl 7 (exDs []),.sl 2 [],.sl 3 [],.sl 2 [],dI 0]=_
  rw[zaZ,exDs];rfl
 rw[e];exact ((((((((((((((((Row.nil W ok).cons (.v _ rfl)).cons (Rep.nil _ _ _)).cons (Rep.nil _ _ _)).cons (Rep.nil _ _ _)).cons (Rep.nil _ _ _)).cons (Rep.nil _ _ _)).cons (Rep.nil _ _ _)).cons (.v _ rfl)).cons (.v _ rfl)).cons (.v _ rfl)).cons (.v _ rfl)).cons (.v _ rfl)).cons (.v _ rfl)).cons h).cons (.v _ rfl)).cons (.v _ rfl)
