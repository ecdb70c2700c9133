/- Small laws on worlds. -/
import Derived.Test.YtedpgeilamhipaaDoorValWalk6
set_option linter.unusedVariables false
set_option linter.unusedSimpArgs false
namespace Go.Proofs.YtedpgeilamhipaaDoor.Va
open Go.RowKit Go Ba

theorem undrew {a w : World} (h : Below a.drew.heap.size a.drew w) : Below a.heap.size a w := ⟨h.os, h.tape, h.output, h.size, h.block⟩
theorem set3 {W : World} {B : Nat} {u0 u1 u2 : Value} (v0 v1 v2 : Value) (h0 : W.cell? ⟨B, 0, none⟩ = some u0) (h1 : W.cell? ⟨B, 1, none⟩ = some u1) (h2 : W.cell? ⟨B, 2, none⟩ = some u2) :
    (((W.setCell ⟨B, 0, none⟩ v0).setCell ⟨B, 1, none⟩ v1).setCell ⟨B, 2, none⟩ v2).cell? ⟨B, 0, none⟩ = some v0 ∧ (((W.setCell ⟨B, 0, none⟩ v0).setCell ⟨B, 1, none⟩ v1).setCell ⟨B, 2, none⟩ v2).cell? ⟨B, 1, none⟩ = some v1 ∧ (((W.setCell ⟨B, 0, none⟩ v0).setCell ⟨B, 1, none⟩ v1).setCell ⟨B, 2, none⟩ v2).cell? ⟨B, 2, none⟩ = some v2 :=
  ⟨(World.cell?_setCell_other _ _ _ _ (by simp)).trans ((World.cell?_setCell_other _ _ _ _ (by simp)).trans (World.cell?_setCell_same _ _ _ h0)),
   (World.cell?_setCell_other _ _ _ _ (by simp)).trans (World.cell?_setCell_same _ _ _ ((World.cell?_setCell_other _ _ _ _ (by simp)).trans h1)),
   World.cell?_setCell_same _ _ _ ((World.cell?_setCell_other _ _ _ _ (by simp)).trans ((World.cell?_setCell_other _ _ _ _ (by simp)).trans h2))⟩

end Go.Proofs.YtedpgeilamhipaaDoor.Va
