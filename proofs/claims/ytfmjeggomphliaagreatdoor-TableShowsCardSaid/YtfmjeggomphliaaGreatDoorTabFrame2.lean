/- Arguments that are rows and tables, opened. -/
import Derived.Test.YtfmjeggomphliaaGreatDoorTabFrame
import Derived.Test.YtfmjeggomphliaaGreatDoorLawWalk2
set_option linter.unusedVariables false
set_option linter.unusedSimpArgs false
namespace Go.Proofs.YtfmjeggomphliaaGreatDoor.Tb
open Go.ChangeShapes Go.WideShapes Go.RowKit Go.Deep Go Ba

section
variable {H : Type} {enc : TypeId × Value → H}
/-- A struct's cells, each with its own reading. -/
theorem open_cells {P : Program} {w : World} {base : Nat} {spare : Nat → Bool} {held : Bool} {t : TypeId} {fs : Array Field} {fuel : Nat} {cs : List Value} {z : DataW H × List MemPlace}
    (hs : P.underlying t = some (.struct fs)) (hone : oneCellFields P fs = true) (hl : cs.length = fs.size) (hf : DataW.trod enc P w base spare held fuel t cs = some z) :
    ∃ n, ∀ (j : Nat) (f : Field), fs[j]? = some f → ∃ (c : Value) (y : DataW H × List MemPlace), cs[j]? = some c ∧ DataW.trod enc P w base spare held n f.type [c] = some y := by
  obtain ⟨ys, n, hn, hy, hlen, hyl, hg⟩ := DataW.trod_struct hs hf
  refine ⟨n, fun j f hj => ?_⟩
  obtain ⟨ho, hk⟩ := hone_of hone j f hj
  have hjl : j < fs.size := (Array.getElem?_eq_some_iff.1 hj).1
  have h1 := hg j f hj
  rw [ho, hk] at h1
  have hc : cs[j]? = some (cs[j]'(by omega)) := List.getElem?_eq_getElem (by omega)
  rw [List.drop_eq_getElem_cons (by omega)] at h1
  have hyj : ys[j]? = some (ys[j]'(by omega)) := List.getElem?_eq_getElem (by omega)
  exact ⟨_, _, hc, h1.trans hyj⟩
theorem i64_of {i : Int} (h : (Lit.int .i64 i).wf = true) : -9223372036854775808 ≤ i ∧ i ≤ 9223372036854775807 := by
  have h0 : IntKind.i64.min ≤ i ∧ i ≤ IntKind.i64.max := by simpa [Lit.wf] using h
  have m0 : IntKind.i64.min = -9223372036854775808 := by rfl
  have m1 : IntKind.i64.max = 9223372036854775807 := by rfl
  omega
theorem val_of {W : World} {sp : Nat → Bool} {held : Bool} {n : Nat} {y : List Value} {z : DataW H × List MemPlace} (hl : y.length = 3) (h : DataW.trod enc Tryz.prog W 0 sp held n 47 y = some z) :
    ∃ v : Val, y = vc v ∧ (-9223372036854775808 ≤ v.n ∧ v.n ≤ 9223372036854775807) ∧ v.t.size ≤ maxLen := by
  obtain ⟨m, hm⟩ := open_cells Tryz.underlying47 (by kernel_rfl) hl h
  obtain ⟨a, x0, e0, t0⟩ := hm 0 _ rfl
  obtain ⟨b, x1, e1, t1⟩ := hm 1 _ rfl
  obtain ⟨c, x2, e2, t2⟩ := hm 2 _ rfl
  obtain ⟨i, ha, _, _⟩ := DataW.trod_int Tryz.underlying3 t0
  obtain ⟨k, hb, _, hw⟩ := DataW.trod_int Tryz.underlying3 t1
  obtain ⟨s, hc, _, hs⟩ := DataW.trod_string Tryz.underlying9 t2
  simp only [List.cons.injEq, and_true] at ha hb hc
  subst ha; subst hb; subst hc
  refine ⟨⟨i, k, s⟩, ?_, i64_of hw, hs⟩
  match y, hl with
  | [p, q, r], _ =>
    simp at e0 e1 e2
    subst e0; subst e1; subst e2
    rfl
theorem col_of {W : World} {sp : Nat → Bool} {held : Bool} {n : Nat} {y : List Value} {z : DataW H × List MemPlace} (hl : y.length = 2) (h : DataW.trod enc Tryz.prog W 0 sp held n 45 y = some z) :
    ∃ c : Col, y = cc c ∧ c.name.size ≤ maxLen := by
  obtain ⟨m, hm⟩ := open_cells Tryz.underlying45 (by kernel_rfl) hl h
  obtain ⟨a, x0, e0, t0⟩ := hm 0 _ rfl
  obtain ⟨b, x1, e1, t1⟩ := hm 1 _ rfl
  obtain ⟨s, ha, _, hs⟩ := DataW.trod_string Tryz.underlying9 t0
  obtain ⟨k, hb, _, _⟩ := DataW.trod_int Tryz.underlying3 t1
  simp only [List.cons.injEq, and_true] at ha hb
  subst ha; subst hb
  refine ⟨⟨s, k⟩, ?_, hs⟩
  match y, hl with
  | [p, q], _ =>
    simp at e0 e1
    subst e0; subst e1
    rfl
/-- What is known of a row that came in. -/
def RowOk (r : List Val) : Prop := Num r ∧ ∀ x ∈ r, x.t.size ≤ maxLen
theorem map_of2 {α : Type} {xs : List (List Value)} {f : α → List Value} {p : α → Prop} (h : ∀ y ∈ xs, ∃ a, y = f a ∧ p a) : ∃ l : List α, xs = l.map f ∧ ∀ a ∈ l, p a := by
  induction xs with
  | nil => exact ⟨[], rfl, fun a ha => (by cases ha)⟩
  | cons y ys ih =>
    obtain ⟨a, rfl, ha⟩ := h y (by simp)
    obtain ⟨l, rfl, hl⟩ := ih (fun z hz => h z (by simp [hz]))
    exact ⟨a :: l, rfl, fun b hb => by
      rcases List.mem_cons.1 hb with rfl | hb
      · exact ha
      · exact hl b hb⟩
theorem row_of {W : World} {sp : Nat → Bool} {held : Bool} {n : Nat} {cs : List Value} {x : DataW H × List MemPlace} (h : DataW.trod enc Tryz.prog W 0 sp held n 49 cs = some x) : ∃ v r, cs = [v] ∧ RowAt W v r ∧ RowOk r := by
  obtain ⟨v, xs, rfl, hx, hlen, hel⟩ := slat_of Tryz.underlying49 (by kernel_rfl : Tryz.prog.cellsOf 47 = 3) (by decide) h
  obtain ⟨r, rfl, hr⟩ := map_of2 (f := vc) (p := fun v => (-9223372036854775808 ≤ v.n ∧ v.n ≤ 9223372036854775807) ∧ v.t.size ≤ maxLen) (xs := xs) (fun y hy => by
    obtain ⟨k, z, hz⟩ := hel y hy
    exact val_of (hlen y hy) hz)
  exact ⟨v, r, rfl, hx, fun x hx => (hr x hx).1, fun x hx => (hr x hx).2⟩
theorem cols_of {W : World} {sp : Nat → Bool} {held : Bool} {n : Nat} {cs : List Value} {x : DataW H × List MemPlace} (h : DataW.trod enc Tryz.prog W 0 sp held n 24 cs = some x) : ∃ v c, cs = [v] ∧ ColsAt W v c ∧ ∀ y ∈ c, y.name.size ≤ maxLen := by
  obtain ⟨v, xs, rfl, hx, hlen, hel⟩ := slat_of Tryz.underlying24 (by kernel_rfl : Tryz.prog.cellsOf 45 = 2) (by decide) h
  obtain ⟨c, rfl, hr⟩ := map_of2 (f := cc) (p := fun c => c.name.size ≤ maxLen) (xs := xs) (fun y hy => by
    obtain ⟨k, z, hz⟩ := hel y hy
    exact col_of (hlen y hy) hz)
  exact ⟨v, c, rfl, hx, hr⟩
theorem rows_of {W : World} {sp : Nat → Bool} {held : Bool} {n : Nat} {cs : List Value} {x : DataW H × List MemPlace} (h : DataW.trod enc Tryz.prog W 0 sp held n 25 cs = some x) : ∃ v rs, cs = [v] ∧ RowsAt W v rs ∧ ∀ r ∈ rs, RowOk r := by
  obtain ⟨v, xs, rfl, hx, hlen, hel⟩ := slat_of Tryz.underlying25 (by kernel_rfl : Tryz.prog.cellsOf 49 = 1) (by decide) h
  have key : ∀ xs : List (List Value), (∀ y ∈ xs, ∃ n z, DataW.trod enc Tryz.prog W 0 sp held n 49 y = some z) → ∃ (hs : List Value) (rs : List (List Val)), xs = hs.map (fun h => [h]) ∧ hs.length = rs.length ∧ (∀ (i : Nat) (h : Value) (r : List Val), hs[i]? = some h → rs[i]? = some r → RowAt W h r) ∧ ∀ r ∈ rs, RowOk r := by
    intro xs
    induction xs with
    | nil => exact fun _ => ⟨[], [], rfl, rfl, fun i h r hh => by simp at hh, fun r hr => (by cases hr)⟩
    | cons y ys ih =>
      intro hh
      obtain ⟨n, z, hz⟩ := hh y (by simp)
      obtain ⟨u, r, rfl, hr, hok⟩ := row_of hz
      obtain ⟨hs, rs, rfl, h2, h3, h4⟩ := ih (fun y hy => hh y (by simp [hy]))
      refine ⟨u :: hs, r :: rs, rfl, by simp [h2], fun i h r' e1 e2 => ?_, fun r' hr' => ?_⟩
      · cases i with
        | zero => simp at e1 e2; subst e1; subst e2; exact hr
        | succ i => exact h3 i h r' (by simpa using e1) (by simpa using e2)
      · rcases List.mem_cons.1 hr' with rfl | hr'
        · exact hok
        · exact h4 r' hr'
  obtain ⟨hs, rs, rfl, h2, h3, h4⟩ := key xs hel
  exact ⟨v, rs, rfl, ⟨hs, h2, hx, h3⟩, h4⟩
theorem open_row {W : World} {v : Value} {d : DataW H} {p : List MemPlace} (hv : ∃ a n c, v = .slice a n c) (h : DataW.Trod enc Tryz.prog W 0 (fun _ => true) true 49 v d p) : ∃ r, RowAt W v r ∧ RowOk r := by
  obtain ⟨fuel, hf⟩ := h
  obtain ⟨a, n, c, rfl⟩ := hv
  obtain ⟨u, r, e, h1, h2⟩ := row_of hf
  obtain rfl : Value.slice a n c = u := by simpa [Value.cells] using e
  exact ⟨r, h1, h2⟩
set_option maxRecDepth 100000 in
theorem open_table {W : World} {base : Nat} {v : Value} {d : DataW H} {p : List MemPlace} (hv : Value.okWide Tryz.prog W .any base 27 v) (h : DataW.Trod enc Tryz.prog W 0 (fun _ => true) true 27 v d p) :
    ∃ sv rv cs rs, v = .agg #[sv, rv] ∧ ColsAt W sv cs ∧ RowsAt W rv rs ∧ (∀ c ∈ cs, c.name.size ≤ maxLen) ∧ ∀ r ∈ rs, RowOk r := by
  obtain ⟨cs, n, rfl, hl, hf⟩ := Fr.open_fields Tryz.underlying27 (by kernel_rfl) (by kernel_rfl : Tryz.prog.cellsOf 27 = 2) hv h
  obtain ⟨a, x0, e0, t0⟩ := hf 0 _ rfl
  obtain ⟨b, x1, e1, t1⟩ := hf 1 _ rfl
  obtain ⟨sv, cols, h0, hc, hcb⟩ := cols_of t0
  obtain ⟨rv, rows, h1, hr, hrb⟩ := rows_of t1
  simp only [List.cons.injEq, and_true] at h0 h1
  subst h0; subst h1
  refine ⟨_, _, cols, rows, ?_, hc, hr, hcb, hrb⟩
  match cs, hl with
  | [p, q], _ =>
    simp at e0 e1
    subst e0; subst e1
    rfl
end
end Go.Proofs.YtfmjeggomphliaaGreatDoor.Tb
