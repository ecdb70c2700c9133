/- Plain facts on texts cut at a mark. No program in sight. -/
import Derived.Test.YtfmjeggomphliaaGreatDoorBase
import Derived.Lib.IndexMore
set_option linter.unusedVariables false
namespace Go.Proofs.YtfmjeggomphliaaGreatDoor.Nu
open Go.Lib

theorem index_app (c : UInt8) (q : List UInt8) : ∀ (a r : List UInt8), (∀ x ∈ a, x ≠ c) → index (a ++ ((c :: q) ++ r)) (c :: q) = a.length
  | [], r, _ => by
    have h : (c :: q).isPrefixOf (c :: (q ++ r)) = true := by rw [List.isPrefixOf_iff_prefix]; exact List.prefix_append (c :: q) r
    rw [List.nil_append]
    show index (c :: (q ++ r)) (c :: q) = _
    unfold index
    rw [if_pos h]; rfl
  | b :: a, r, h => by
    have hb : b ≠ c := h b (by simp)
    have ih := index_app c q a r (fun x hx => h x (by simp [hx]))
    rw [List.cons_append]
    unfold index
    have hp : (c :: q).isPrefixOf (b :: (a ++ ((c :: q) ++ r))) = false := by
      simp only [List.isPrefixOf, Bool.and_eq_false_iff]
      left
      simpa using fun h => hb h.symm
    rw [hp, ih]
    simp
theorem cut_app (c : UInt8) (q a r : List UInt8) (h : ∀ x ∈ a, x ≠ c) : cut (a ++ ((c :: q) ++ r)) (c :: q) = (a, r, true) := by
  unfold cut
  rw [index_app c q a r h, if_pos (by omega)]
  have e1 : (a ++ ((c :: q) ++ r)).take a.length = a := List.take_left' rfl
  have e2 : (a ++ ((c :: q) ++ r)).drop (a.length + (c :: q).length) = r := by
    rw [← List.drop_drop, List.drop_left' rfl, List.drop_left' rfl]
  simp only [Int.toNat_natCast, e1, e2]
end Go.Proofs.YtfmjeggomphliaaGreatDoor.Nu
