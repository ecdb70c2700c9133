/- A mapping between two schemes, opened: eight ints. -/
import Derived.Test.YtkapkfddbdgmoaaDoorFrame
set_option linter.unusedVariables false
namespace Go.Proofs.YtkapkfddbdgmoaaDoor.Fr
open Go.ChangeShapes Go.WideShapes Go.ChangeAt Go.RowKit Go.Deep Go

section
variable {H : Type} {enc : TypeId × Value → H} {P : Program} {w : World} {base : Nat} {spare : Nat → Bool} {held : Bool}
theorem sub_at {fuel : Nat} {t : TypeId} {fs : Array Field} {cs : List Value} {x : DataW H × List MemPlace} (hs : P.underlying t = some (.struct fs)) (h : DataW.trod enc P w base spare held fuel t cs = some x) (i : Nat) {f : Field} (hf : fs[i]? = some f) {t' : TypeId} {o n : Nat} (ht : f.type = t') (ho : f.offset = o) (hk : P.cellsOf t' = n) :
    ∃ (y : DataW H × List MemPlace) (m : Nat), DataW.trod enc P w base spare held m t' ((cs.drop o).take n) = some y := by
  subst ht; subst ho; subst hk
  obtain ⟨xs, m, rfl, hx, hl, hn, hg⟩ := DataW.trod_struct hs h
  have h1 := hg i f hf
  have hi : i < fs.size := (Array.getElem?_eq_some_iff.1 hf).1
  rw [List.getElem?_eq_getElem (by omega)] at h1
  exact ⟨_, m, h1⟩
theorem int_at {fuel : Nat} {t : TypeId} {fs : Array Field} {cs : List Value} {x : DataW H × List MemPlace} (hs : P.underlying t = some (.struct fs)) (h : DataW.trod enc P w base spare held fuel t cs = some x) (i : Nat) {f : Field} (hf : fs[i]? = some f) {t' : TypeId} {o : Nat} (ht : f.type = t') (ho : f.offset = o) (hi : P.underlying t' = some (.int .i64)) (hk : P.cellsOf t' = 1) :
    ∃ n : Int, cs[o]? = some (.int .i64 n) ∧ -9223372036854775808 ≤ n ∧ n ≤ 9223372036854775807 := by
  obtain ⟨y, m, h1⟩ := sub_at hs h i hf ht ho hk
  obtain ⟨n, hc, _, hw⟩ := DataW.trod_int hi h1
  have h2 := congrArg (·[0]?) hc
  refine ⟨n, ?_, bounds_i64 hw⟩
  simpa [List.getElem?_take, List.getElem?_drop] using h2
end
set_option maxRecDepth 100000 in
theorem open_case {H : Type} {enc : TypeId × Value → H} {w : World} {base b0 : Nat} {spare : Nat → Bool} {held : Bool} {r : Reach} {v : Value} {d : DataW H} {p : List MemPlace}
    (hv : Value.okWide Tryd.prog w r b0 51 v) (h : DataW.Trod enc Tryd.prog w base spare held 51 v d p) :
    ∃ k n lk lf ll uk uf ul : Int, v = .agg #[.int .i64 k, .int .i64 n, .int .i64 lk, .int .i64 lf, .int .i64 ll, .int .i64 uk, .int .i64 uf, .int .i64 ul] ∧ (-9223372036854775808 ≤ lf ∧ ll ≤ 9223372036854775807 ∧ -9223372036854775808 ≤ uf ∧ ul ≤ 9223372036854775807) ∧ (-9223372036854775808 ≤ n ∧ n ≤ 9223372036854775807) := by
  have k8 : Tryd.prog.cellsOf 51 = 8 := by kernel_rfl
  have k2 : Tryd.prog.cellsOf 49 = 2 := by kernel_rfl
  have k3 : Tryd.prog.cellsOf 23 = 3 := by kernel_rfl
  have k1 : Tryd.prog.cellsOf 3 = 1 := by kernel_rfl
  obtain ⟨cs, rfl, hsz⟩ := okWide_struct Tryd.underlying51 hv
  obtain ⟨fuel, hf⟩ := h
  have e1 : (Value.cells (.agg cs)).toList = cs.toList := by simp [Value.cells]
  rw [e1] at hf
  obtain ⟨y0, m0, s0⟩ := sub_at Tryd.underlying51 hf 0 rfl rfl rfl k2
  obtain ⟨y1, m1, s1⟩ := sub_at Tryd.underlying51 hf 1 rfl rfl rfl k3
  obtain ⟨y2, m2, s2⟩ := sub_at Tryd.underlying51 hf 2 rfl rfl rfl k3
  obtain ⟨k, a0, _⟩ := int_at Tryd.underlying49 s0 0 rfl rfl rfl Tryd.underlying3 k1
  obtain ⟨n, a1, bn⟩ := int_at Tryd.underlying49 s0 1 rfl rfl rfl Tryd.underlying3 k1
  obtain ⟨lk, a2, _⟩ := int_at Tryd.underlying23 s1 0 rfl rfl rfl Tryd.underlying3 k1
  obtain ⟨lf, a3, b3⟩ := int_at Tryd.underlying23 s1 1 rfl rfl rfl Tryd.underlying3 k1
  obtain ⟨ll, a4, b4⟩ := int_at Tryd.underlying23 s1 2 rfl rfl rfl Tryd.underlying3 k1
  obtain ⟨uk, a5, _⟩ := int_at Tryd.underlying23 s2 0 rfl rfl rfl Tryd.underlying3 k1
  obtain ⟨uf, a6, b6⟩ := int_at Tryd.underlying23 s2 1 rfl rfl rfl Tryd.underlying3 k1
  obtain ⟨ul, a7, b7⟩ := int_at Tryd.underlying23 s2 2 rfl rfl rfl Tryd.underlying3 k1
  simp only [List.getElem?_take, List.getElem?_drop] at a0 a1 a2 a3 a4 a5 a6 a7
  have hl : cs.toList.length = 8 := by simpa using hsz.trans k8
  refine ⟨k, n, lk, lf, ll, uk, uf, ul, ?_, ⟨b3.1, b4.2, b6.1, b7.2⟩, bn⟩
  obtain ⟨l⟩ := cs
  match l, hl with
  | [c0, c1, c2, c3, c4, c5, c6, c7], _ =>
    simp at a0 a1 a2 a3 a4 a5 a6 a7
    rw [a0, a1, a2, a3, a4, a5, a6, a7]
end Go.Proofs.YtkapkfddbdgmoaaDoor.Fr
