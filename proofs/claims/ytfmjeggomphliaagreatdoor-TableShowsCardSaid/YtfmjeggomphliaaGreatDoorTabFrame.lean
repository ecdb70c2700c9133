/- Arguments that are slices, opened: bytes, columns, rows. -/
import Derived.Test.YtfmjeggomphliaaGreatDoorFrame
import Derived.Test.YtfmjeggomphliaaGreatDoorDigWalk
import Derived.Deep.Slices
set_option linter.unusedVariables false
set_option linter.unusedSimpArgs false
namespace Go.Proofs.YtfmjeggomphliaaGreatDoor.Tb
open Go.ChangeShapes Go.WideShapes Go.RowKit Go.Deep Go Ba

section
variable {H : Type} {enc : TypeId × Value → H}
theorem spot_none {w : World} {a : Addr} {v : Value} (h : w.cell? a = some v) : a.spot = none := by
  obtain ⟨b, o, s⟩ := a
  cases s with
  | none => rfl
  | some s =>
    exfalso
    revert h
    unfold World.cell?
    split <;> simp
/-- A slice's elements, read. -/
theorem slat_of {P : Program} {w : World} {sp : Nat → Bool} {held : Bool} {fuel : Nat} {t e : TypeId} {sz : Nat} {cs : List Value} {x : DataW H × List MemPlace} (ht : P.underlying t = some (.slice e)) (hC : P.cellsOf e = sz) (hz : 0 < sz)
    (h : DataW.trod enc P w 0 sp held fuel t cs = some x) : ∃ (v : Value) (xs : List (List Value)), cs = [v] ∧ SlAt w v sz xs ∧ (∀ y ∈ xs, y.length = sz) ∧ ∀ y ∈ xs, ∃ n z, DataW.trod enc P w 0 sp held n e y = some z := by
  rcases open_slice ht h with ⟨rfl, _⟩ | ⟨a, len, cap, m, n, D, Pl, rfl, _, hl, hm, hmm, _, hi⟩
  · exact ⟨_, [], rfl, ⟨none, 0, rfl, Nat.le_refl _, by unfold maxLen; omega, fun i x hx => by simp at hx⟩, fun y hy => (by cases hy), fun y hy => (by cases hy)⟩
  · rw [hC] at hi
    have hlm : len ≤ m := by rw [hmm]; split <;> omega
    obtain ⟨f, hf⟩ := choose_lt (α := List Value) fun i (him : i < len) => by
      obtain ⟨cs', h1, h2⟩ := hi i (by omega)
      exact (⟨cs', h1, h2⟩ : ∃ cs', w.cells? 0 (a.add (i * sz)) sz = some cs' ∧ DataW.trod enc P w 0 sp held n e cs' = some (D i, Pl i))
    have hcell : ∀ i, i < len → (f i).length = sz ∧ ∀ j, j < sz → w.cell? (a.add (i * sz + j)) = (f i)[j]? := fun i him => by
      obtain ⟨_, h1, h2⟩ := World.cells?_some (hf i him).1
      exact ⟨h1, fun j hj => by rw [← add_add]; exact h2 j hj⟩
    refine ⟨_, (List.range len).map f, rfl, ⟨some a, cap, by simp, by simpa using hl, hm, fun i y hy => ?_⟩, fun y hy => ?_, fun y hy => ?_⟩
    · have hil : i < len := by
        have := (List.getElem?_eq_some_iff.1 hy).1
        simpa using this
      have hyf : y = f i := by
        have : ((List.range len).map f)[i]? = some (f i) := by simp [hil]
        rw [this] at hy
        exact (Option.some.inj hy).symm
      subst hyf
      obtain ⟨h1, h2⟩ := hcell i hil
      have h0 := h2 0 hz
      have hv : (f i)[0]? = some ((f i)[0]'(by omega)) := List.getElem?_eq_getElem (by omega)
      rw [hv] at h0
      obtain ⟨h3, h4⟩ := hcell 0 (by omega)
      have h5 := h4 0 hz
      have hv0 : (f 0)[0]? = some ((f 0)[0]'(by omega)) := List.getElem?_eq_getElem (by omega)
      rw [hv0, Nat.zero_mul, Nat.zero_add] at h5
      have hs := spot_none h5
      obtain ⟨b, o, s⟩ := a
      obtain rfl : s = none := hs
      refine ⟨b, o, rfl, ?_, fun j hj => by have := h2 j hj; rwa [Addr.add_lit] at this⟩
      rw [Addr.add_lit] at h0
      exact lt_of_cell h0
    · obtain ⟨i, him, rfl⟩ := List.mem_map.1 hy
      exact (hcell i (List.mem_range.1 him)).1
    · obtain ⟨i, him, rfl⟩ := List.mem_map.1 hy
      exact ⟨n, _, (hf i (List.mem_range.1 him)).2⟩
/-- From elements of one form to a list of things. -/
theorem map_of {α : Type} {xs : List (List Value)} {f : α → List Value} (h : ∀ y ∈ xs, ∃ a, y = f a) : ∃ l : List α, xs = l.map f := by
  induction xs with
  | nil => exact ⟨[], rfl⟩
  | cons y ys ih =>
    obtain ⟨a, rfl⟩ := h y (by simp)
    obtain ⟨l, rfl⟩ := ih (fun z hz => h z (by simp [hz]))
    exact ⟨a :: l, rfl⟩
/-- Bytes. -/
theorem open_bytes {W : World} {v : Value} {d : DataW H} {p : List MemPlace} (hv : ∃ a n c, v = .slice a n c) (h : DataW.Trod enc Tryz.prog W 0 (fun _ => true) true 75 v d p) : ∃ l, BytesAt W v l := by
  obtain ⟨fuel, hf⟩ := h
  obtain ⟨a, n, c, rfl⟩ := hv
  obtain ⟨u, xs, e, hx, hlen, hel⟩ := slat_of Tryz.underlying75 (by kernel_rfl : Tryz.prog.cellsOf 5 = 1) (by decide) hf
  obtain rfl : Value.slice a n c = u := by simpa [Value.cells] using e
  obtain ⟨l, rfl⟩ := map_of (f := bc1) (xs := xs) (fun y hy => by
    obtain ⟨k, z, hz⟩ := hel y hy
    obtain ⟨i, hi, _, hw⟩ := DataW.trod_int Tryz.underlying5 hz
    refine ⟨UInt8.ofNat i.toNat, ?_⟩
    rw [hi]
    have h0 : IntKind.u8.min ≤ i ∧ i ≤ IntKind.u8.max := by simpa [Lit.wf] using hw
    have m0 : IntKind.u8.min = 0 := by rfl
    have m1 : IntKind.u8.max = 255 := by rfl
    unfold bc1
    congr 2
    rw [UInt8.toNat_ofNat']
    omega)
  exact ⟨l, hx⟩
end
end Go.Proofs.YtfmjeggomphliaaGreatDoor.Tb
