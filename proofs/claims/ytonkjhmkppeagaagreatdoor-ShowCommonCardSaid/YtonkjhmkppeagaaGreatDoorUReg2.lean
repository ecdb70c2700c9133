/- Regions that draw their order, taken operation by operation; what is asked is done by itself. -/
import Derived.Test.YtonkjhmkppeagaaGreatDoorUBase
set_option linter.unusedVariables false
namespace Go.Proofs.YtonkjhmkppeagaaGreatDoor.Ba
open Go.RowKit Go
section
variable {P : Program} {ops : Array Oper} {Q : Exit → Act → World → Prop} {md : Region.Mode} {S : World → Prop} {m : Nat}
/-! The same, what is asked done by itself; slots and marks written out. -/
theorem tKm (i : Nat) {oi : Oper} {v : Value} {fuel : Nat} {listed l' : Array Bool} {a a' : Act} {w : World} (h : zbQ P md ops Q S m fuel l' a' w) (hS : S w := by assumption) (hi : ops[i]? = some oi := by exact rfl) (hb : TkB md ops m i listed = true := by kernel_rfl)
    (hy : YieldsIf P ops S oi v a := by exact Or.inl ⟨by rfl, by intro w hSw; (try dsimp only at hSw); go_simp <;> with_reducible rfl⟩)
    (hl : listed.setIfInBounds i true = l' := by first | (simp only [Array.reduceGetElem, zs]; exact rfl) | exact rfl) (ha : a.put oi.dst v = a' := by first | (simp only [Array.reduceGetElem, zs]; exact rfl) | exact rfl)
    (hQ : ∀ c a w, Q (.panic c) (a.put oi.dst v) w → Q (.panic c) a w := by exact fun _ _ _ h => h) : zbQ P md ops Q S m (fuel + 1) listed a w := tkM i hi hb hS hy (by rw [hl, ha]; exact h) hQ
theorem tKp (i : Nat) {oi : Oper} {v : Value} {fuel : Nat} {listed l' : Array Bool} {a a' : Act} {w : World} (h : zbQ P md ops Q S m fuel l' a' w) (hS : S w := by assumption) (hi : ops[i]? = some oi := by exact rfl) (hb : TkC md ops m i listed true = true := by kernel_rfl)
    (hy : YieldsIf P ops (fun _ => True) oi v a := by exact Or.inl ⟨by rfl, by intro w hSw; clear hSw; go_simp <;> with_reducible rfl⟩)
    (hl : listed.setIfInBounds i true = l' := by first | (simp only [Array.reduceGetElem, zs]; exact rfl) | exact rfl) (ha : a.put oi.dst v = a' := by first | (simp only [Array.reduceGetElem, zs]; exact rfl) | exact rfl)
    (hQ : ∀ c a w, Q (.panic c) (a.put oi.dst v) w → Q (.panic c) a w := by exact fun _ _ _ h => h) : zbQ P md ops Q S m (fuel + 1) listed a w := tkP i hi hb hS hy (by rw [hl, ha]; exact h) hQ
theorem rKs (rs : List Nat) {fuel : Nat} {listed l' : Array Bool} {a a' : Act} {w : World} (h : zac P md ops Q S m fuel l' a' w rs) (hr : Region.ready md ops listed = rs := by kernel_rfl) (hne : rs ≠ [] := by simp)
    (hl : listed = l' := by first | (simp only [Array.reduceGetElem, zs]; exact rfl) | exact rfl) (ha : a = a' := by first | (simp only [Array.reduceGetElem, zs]; exact rfl) | exact rfl) : zbQ P md ops Q S m (fuel + 1) listed a w := zpE hr hne (by rw [hl, ha]; exact h)
theorem rK1 (i : Nat) {o : Oper} {fuel : Nat} {listed l' : Array Bool} {a a' : Act} {w : World}
    (h : ∀ K' : Act → World → Prop, Shut (∀ a w, S w → (S w → zbQ P md ops Q S m fuel (l'.setIfInBounds i true) a w) → K' a w) → if Region.wanted o (yielded ops a'.tmps) = true then Oper.wp P o a' w K' Q else K' (a'.put o.dst undef) w)
    (hr : Region.ready md ops listed = [i] := by kernel_rfl) (ho : ops[i]? = some o := by exact rfl)
    (hl : listed = l' := by first | (simp only [Array.reduceGetElem, zs]; exact rfl) | exact rfl) (ha : a = a' := by first | (simp only [Array.reduceGetElem, zs]; exact rfl) | exact rfl) : zbQ P md ops Q S m (fuel + 1) listed a w := rKs [i] (zac.cons ho h .nil) hr (by simp) hl ha
theorem rKl (i : Nat) {o : Oper} {fuel : Nat} {listed l' : Array Bool} {a a' : Act} {w : World}
    (h : ∀ K' : Act → World → Prop, Shut (∀ a w, zbQ P md ops Q S m fuel (l'.setIfInBounds i true) a w → K' a w) → if Region.wanted o (yielded ops a'.tmps) = true then Oper.wp P o a' w K' Q else K' (a'.put o.dst undef) w)
    (hr : Region.ready md ops listed = [i] := by kernel_rfl) (ho : ops[i]? = some o := by exact rfl) (hm : (listed.setIfInBounds i true).getD m true = true := by kernel_rfl)
    (hl : listed = l' := by first | (simp only [Array.reduceGetElem, zs]; exact rfl) | exact rfl) (ha : a = a' := by first | (simp only [Array.reduceGetElem, zs]; exact rfl) | exact rfl) : zbQ P md ops Q S m (fuel + 1) listed a w := rKs [i] (zac.last ho (hl ▸ hm) h .nil) hr (by simp) hl ha
theorem rKd {listed : Array Bool} {a a' : Act} {w : World} {fuel : Nat} (h : Q .normal a' w) (hr : Region.ready md ops listed = [] := by kernel_rfl) (ha : a = a' := by first | (simp only [Array.reduceGetElem, zs]; exact rfl) | exact rfl) : zbQ P md ops Q S m fuel listed a w := zp3 hr (by rw [ha]; exact h) fuel
end
end Go.Proofs.YtonkjhmkppeagaaGreatDoor.Ba
