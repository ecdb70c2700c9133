/- Slices read: a value that is a slice of things of some cells, wherever it lies; kept behind whatever only lays new blocks. -/
import Derived.Test.YtfmjeggomphliaaDoorBase
set_option linter.unusedVariables false
set_option linter.unusedSimpArgs false
namespace Go.Proofs.YtfmjeggomphliaaDoor.Ba
open Go.RowKit Go

/-- A slice value whose elements have these cells. -/
def SlAt (W : World) (v : Value) (sz : Nat) (xs : List (List Value)) : Prop :=
  ∃ ao cap, v = .slice ao xs.length cap ∧ xs.length ≤ cap ∧ cap ≤ maxLen ∧ ∀ i x, xs[i]? = some x → ∃ b o, ao = some ⟨b, o, none⟩ ∧ b < W.heap.size ∧ ∀ j, j < sz → W.cell? ⟨b, o + (i * sz + j), none⟩ = x[j]?
theorem SlAt.below {W W' : World} {v : Value} {sz : Nat} {xs : List (List Value)} (h : SlAt W v sz xs) (hb : Below W.heap.size W W') : SlAt W' v sz xs := by
  obtain ⟨ao, cap, h1, h2, h3, h4⟩ := h
  refine ⟨ao, cap, h1, h2, h3, fun i x hx => ?_⟩
  obtain ⟨b, o, e, hlt, hc⟩ := h4 i x hx
  exact ⟨b, o, e, Nat.lt_of_lt_of_le hlt hb.size, fun j hj => (hb.cell (by exact hlt)).trans (hc j hj)⟩
theorem SlAt.len {W : World} {v : Value} {sz : Nat} {xs : List (List Value)} (h : SlAt W v sz xs) : ∃ ao cap, v = .slice ao xs.length cap ∧ xs.length ≤ cap ∧ cap ≤ maxLen := by
  obtain ⟨ao, cap, h1, h2, h3, _⟩ := h
  exact ⟨ao, cap, h1, h2, h3⟩
/-- An element's cells. -/
theorem SlAt.cells {W : World} {ao : Option Addr} {n cap sz : Nat} {xs : List (List Value)} {i : Nat} {x : List Value} (h : SlAt W (.slice ao n cap) sz xs) (hx : xs[i]? = some x) :
    ∃ b o, ao = some ⟨b, o, none⟩ ∧ b < W.heap.size ∧ ∀ j, j < sz → W.cell? ⟨b, o + (i * sz + j), none⟩ = x[j]? := by
  obtain ⟨ao', cap', e, _, _, h4⟩ := h
  injection e with e1 e2 e3
  subst e1
  exact h4 i x hx
theorem flat_at {sz : Nat} : ∀ (xs : List (List Value)), (∀ x ∈ xs, x.length = sz) → ∀ (i : Nat) (x : List Value), xs[i]? = some x → ∀ j, j < sz → xs.flatten[i * sz + j]? = x[j]?
  | [], _, i, x, h, j, hj => by simp at h
  | y :: ys, hl, i, x, h, j, hj => by
    have hy := hl y (by simp)
    cases i with
    | zero =>
      simp only [List.getElem?_cons_zero, Option.some.injEq] at h
      subst h
      rw [Nat.zero_mul, Nat.zero_add, List.flatten_cons, List.getElem?_append_left (by omega)]
    | succ i =>
      rw [List.getElem?_cons_succ] at h
      rw [List.flatten_cons, List.getElem?_append_right (by rw [hy, Nat.succ_mul]; omega), hy, Nat.succ_mul, show i * sz + sz + j - sz = i * sz + j by omega]
      exact flat_at ys (fun z hz => hl z (by simp [hz])) i x h j hj
/-- What the call itself has gathered reads as what was gathered. -/
theorem SlAt.of {w : World} {base sz : Nat} {e : TypeId} {v : Value} {xs : List (List Value)} (hs : ∀ x ∈ xs, x.length = sz) (h : w.ownsRow base e sz v xs.length xs.flatten) : SlAt w v sz xs := by
  rcases h.2 with ⟨rfl, h2⟩ | ⟨g, cap, cur, rfl, hg, hh, h3, h4, h5, h6⟩
  · refine ⟨none, 0, by rw [h2], by omega, by unfold maxLen; omega, fun i x hx => ?_⟩
    have := (List.getElem?_eq_some_iff.1 hx).1
    omega
  · refine ⟨some ⟨g, 0, none⟩, cap, rfl, h3, h4, fun i x hx => ⟨g, 0, rfl, (h.lt g rfl).2, fun j hj => ?_⟩⟩
    have hi := (List.getElem?_eq_some_iff.1 hx).1
    have hlt : i * sz + j < xs.length * sz := by
      have : (i + 1) * sz ≤ xs.length * sz := Nat.mul_le_mul_right _ hi
      rw [Nat.succ_mul] at this
      omega
    rw [Nat.zero_add, h.cellAt _ hlt]
    exact flat_at xs hs i x hx j hj
end Go.Proofs.YtfmjeggomphliaaDoor.Ba
