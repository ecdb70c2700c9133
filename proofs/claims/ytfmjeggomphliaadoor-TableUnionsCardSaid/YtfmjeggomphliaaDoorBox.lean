/- A block of known cells, from world to world. -/
import Derived.Test.YtfmjeggomphliaaDoorQuiet
set_option linter.unusedVariables false
namespace Go.Proofs.YtfmjeggomphliaaDoor.Ba
open Go.RowKit Go Go.Sort

/-- Block B holds these cells, and none is frozen. -/
structure Box (W : World) (B : Nat) (vs : List Value) : Prop where
  lt : B < W.heap.size
  cl : ∀ (i : Nat) (v : Value), vs[i]? = some v → W.cell? ⟨B, i, none⟩ = some v
  fr : ∀ i, i < vs.length → W.frozen? ⟨B, i, none⟩ = false
theorem Box.below {W W' : World} {B C : Nat} {vs : List Value} (h : Box W B vs) (hb : Below C W W') (hC : B < C) : Box W' B vs :=
  ⟨Nat.lt_of_lt_of_le h.lt hb.size, fun i v hv => (hb.cell (by exact hC)).trans (h.cl i v hv), fun i hi => (hb.frozen (by exact hC)).trans (h.fr i hi)⟩
theorem Box.next {W W' : World} {B : Nat} {vs : List Value} (h : Box W B vs) (hb : Below W.heap.size W W') : Box W' B vs := h.below hb h.lt
theorem Box.new (w : World) (vs : List Value) (t : TypeId) : Box (w.alloc (.cells vs.toArray t)) w.heap.size vs :=
  ⟨by simp, fun i v hv => by rw [World.cell?_alloc_at _ _ _ _ rfl]; simpa using hv, fun i hi => World.frozen?_alloc_at _ _ _ _ rfl⟩
theorem Box.alloc {W : World} {B : Nat} {vs : List Value} (h : Box W B vs) (o : Obj) : Box (W.alloc o) B vs :=
  ⟨by have := h.lt; simp; omega, fun i v hv => (World.cell?_alloc_past o _ _ h.lt).trans (h.cl i v hv), fun i hi => (World.frozen?_alloc_past o _ _ h.lt).trans (h.fr i hi)⟩
theorem Box.put {W : World} {B : Nat} {vs : List Value} (h : Box W B vs) (i : Nat) (v : Value) : Box (W.setCell ⟨B, i, none⟩ v) B (vs.set i v) := by
  refine ⟨by rw [World.size_setCell]; exact h.lt, fun j u hu => ?_, fun j hj => ?_⟩
  · by_cases hij : i = j
    · subst hij
      rw [List.getElem?_set_self'] at hu
      cases hv : vs[i]? with
      | none => rw [hv] at hu; cases hu
      | some x =>
        rw [hv] at hu
        have hu' : v = u := by simpa using hu
        subst hu'
        exact World.cell?_setCell_same _ _ _ (h.cl i x hv)
    · rw [List.getElem?_set_ne hij] at hu
      rw [World.cell?_setCell_other _ _ _ _ (by simp <;> exact hij)]
      exact h.cl j u hu
  · rw [World.frozen?_setCell]
    exact h.fr j (by simpa using hj)
theorem Box.other {W : World} {B C : Nat} {vs : List Value} (h : Box W B vs) (hB : C ≠ B) (i : Nat) (v : Value) : Box (W.setCell ⟨C, i, none⟩ v) B vs :=
  ⟨by rw [World.size_setCell]; exact h.lt, fun j u hu => by rw [World.cell?_setCell_other _ _ _ _ (by simp <;> exact hB)]; exact h.cl j u hu, fun j hj => by rw [World.frozen?_setCell]; exact h.fr j hj⟩
theorem Box.grown {W : World} {B : Nat} {vs : List Value} (h : Box W B vs) (d : Nat) (os : Array Obj) : Box (grow (redrawn W d) os) B vs := h.next (below_regrown W d os)
theorem Box.put3 {W : World} {B : Nat} {u0 u1 u2 : Value} (h : Box W B [u0, u1, u2]) (v0 v1 v2 : Value) : Box (((W.setCell ⟨B, 0, none⟩ v0).setCell ⟨B, 1, none⟩ v1).setCell ⟨B, 2, none⟩ v2) B [v0, v1, v2] := ((h.put 0 v0).put 1 v1).put 2 v2
theorem Box.other3 {W : World} {B C : Nat} {vs : List Value} (h : Box W B vs) (hB : C ≠ B) (v0 v1 v2 : Value) : Box (((W.setCell ⟨C, 0, none⟩ v0).setCell ⟨C, 1, none⟩ v1).setCell ⟨C, 2, none⟩ v2) B vs := ((h.other hB 0 v0).other hB 1 v1).other hB 2 v2
theorem below3 {W a : World} {B C : Nat} (h : Below B a W) (hC : B ≤ C) (v0 v1 v2 : Value) : Below B a (((W.setCell ⟨C, 0, none⟩ v0).setCell ⟨C, 1, none⟩ v1).setCell ⟨C, 2, none⟩ v2) :=
  ((h.setCell hC _).setCell hC _).setCell hC _
/-- What a box of three gives the walk. -/
theorem Box.three {W : World} {B : Nat} {a b c : Value} (h : Box W B [a, b, c]) : W.cell? ⟨B, 0, none⟩ = some a ∧ W.cell? ⟨B, 1, none⟩ = some b ∧ W.cell? ⟨B, 2, none⟩ = some c ∧ W.frozen? ⟨B, 0, none⟩ = false ∧ W.frozen? ⟨B, 1, none⟩ = false ∧ W.frozen? ⟨B, 2, none⟩ = false :=
  ⟨h.cl 0 _ rfl, h.cl 1 _ rfl, h.cl 2 _ rfl, h.fr 0 (by simp), h.fr 1 (by simp), h.fr 2 (by simp)⟩
theorem Box.two {W : World} {B : Nat} {a b : Value} (h : Box W B [a, b]) : W.cell? ⟨B, 0, none⟩ = some a ∧ W.cell? ⟨B, 1, none⟩ = some b ∧ W.frozen? ⟨B, 0, none⟩ = false ∧ W.frozen? ⟨B, 1, none⟩ = false :=
  ⟨h.cl 0 _ rfl, h.cl 1 _ rfl, h.fr 0 (by simp), h.fr 1 (by simp)⟩
end Go.Proofs.YtfmjeggomphliaaDoor.Ba
