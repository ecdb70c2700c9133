/- Bounds of the rows that a text is read as; rows behind a drawn cell. -/
import Derived.Test.YtfmjeggomphliaaGreatDoorSchParse
import Derived.Test.YtfmjeggomphliaaGreatDoorMakeOwn
set_option linter.unusedVariables false
set_option linter.unusedSimpArgs false
namespace Go.Proofs.YtfmjeggomphliaaGreatDoor.Rf
open Go.RowKit Go Go.Sort Ba Tb Va
theorem all_mem {α β : Type} {f : α → Option β} : ∀ {xs : List α} {ys : List β}, allOf f xs = some ys → ∀ y ∈ ys, ∃ x ∈ xs, f x = some y
  | [], ys, h, y, hy => by simp only [allOf, Option.some.injEq] at h; rw [← h] at hy; cases hy
  | x :: xs, ys, h, y, hy => by
    unfold allOf at h
    cases hx : f x with
    | none => rw [hx] at h; cases h
    | some z =>
      rw [hx] at h
      simp only at h
      cases hxs : allOf f xs with
      | none => rw [hxs] at h; cases h
      | some zs =>
        rw [hxs] at h
        simp only [Option.some.injEq] at h
        rw [← h] at hy
        rcases List.mem_cons.1 hy with rfl | hy
        · exact ⟨x, List.mem_cons_self, hx⟩
        · obtain ⟨x', a, b⟩ := all_mem hxs y hy
          exact ⟨x', List.mem_cons_of_mem _ a, b⟩
theorem cand_bd {l : List UInt8} {k n : Int} {t : List UInt8} (h : candV l = some (k, n, t)) : t.length ≤ l.length ∧ -9223372036854775808 ≤ n ∧ n ≤ 9223372036854775807 := by
  unfold candV at h
  split at h
  · rename_i hn
    simp only [Option.some.injEq, Prod.mk.injEq] at h
    obtain ⟨rfl, rfl, rfl⟩ := h
    exact ⟨by simp, by decide, by decide⟩
  · split at h
    · rename_i hq
      simp only [Option.some.injEq, Prod.mk.injEq] at h
      obtain ⟨rfl, rfl, rfl⟩ := h
      refine ⟨?_, by decide, by decide⟩
      have h1 := unq_len (inner l)
      unfold inner at h1 ⊢
      rw [List.length_dropLast, List.length_drop] at h1
      omega
    · cases ha : Lib.atoiAll l with
      | ok v =>
        rw [ha] at h
        simp only [Option.some.injEq, Prod.mk.injEq] at h
        obtain ⟨rfl, rfl, rfl⟩ := h
        exact ⟨by simp, Lib.atoiAll_bounds ha⟩
      | _ => rw [ha] at h; cases h
theorem val_bd {l : List UInt8} {v : Val} (h : Tb.valOf l = some v) : v.t.size ≤ l.length ∧ -9223372036854775808 ≤ v.n ∧ v.n ≤ 9223372036854775807 := by
  rcases val_some h with ⟨_, h1, _⟩ | ⟨h1, _⟩
  · have := cand_bd h1
    rw [size_list]; exact this
  · cases h1
theorem rows_bd {l : List UInt8} {rs : List (List Val)} (h : rowsOf l = some rs) (hc : ∀ t x, x ∈ cellsL t → x.length ≤ t.length) (hcl : ∀ t, (cellsL t).length ≤ t.length + 1) (hl : ∀ {ys : List (List Val)} {f : List UInt8 → Option (List Val)} {xs : List (List UInt8)}, allOf f xs = some ys → ys.length = xs.length) (hl' : ∀ {ys : List Val} {f : List UInt8 → Option Val} {xs : List (List UInt8)}, allOf f xs = some ys → ys.length = xs.length) (hn : (linesL l).length ≤ 10000) (hx : ∀ x ∈ linesL l, x.length ≤ 4000) : BdRs rs := by
  refine ⟨by rw [hl h]; exact hn, fun r hr => ?_⟩
  obtain ⟨x, hxm, hxr⟩ := all_mem h r hr
  have h0 := hx x hxm
  have h1 := Lib.trimSuffix_le x [10]
  have h2 := hcl (Lib.trimSuffix x [10])
  refine ⟨by rw [hl' hxr]; omega, fun z hz => ?_, fun z hz => ?_⟩
  · obtain ⟨y, hy, hv⟩ := all_mem hxr z hz
    have := (val_bd hv).1
    have := hc _ _ hy
    omega
  · obtain ⟨y, hy, hv⟩ := all_mem hxr z hz
    exact (val_bd hv).2
theorem bdC_of {cs : List Col} (h : chk cs = 0) : BdC cs := by
  obtain ⟨h1, _, h2⟩ := chk_ty h
  exact ⟨by omega, fun c hc => by have := name_size (h1 c hc).2; omega⟩
theorem own_putObj {W : World} {base D : Nat} {e : TypeId} {size n : Nat} {v : Value} {xs : List Value} {x : Option (List Deferred)} {o : Obj} (h : W.ownsRow base e size v n xs) (hD : W.heap[D]? = some (.deferred x)) : (W.putObj D o).ownsRow base e size v n xs :=
  own_kept h (grownBy_putObj' W D o) (.inr ⟨_, hD, rfl⟩)
theorem Rows'.keptD {W : World} {base D : Nat} {v : Value} {rs : List (List Val)} {x : Option (List Deferred)} {o : Obj} (h : Rows' W base v rs) (hD : W.heap[D]? = some (.deferred x)) : Rows' (W.putObj D o) base v rs := by
  rcases h with h | ⟨g, cap, hs, h0, h1, h2, h3, h4, h5, h6, h7⟩
  · exact .inl h
  · refine .inr ⟨g, cap, hs, h0, h1, by rw [World.putObj_size]; exact h2, h3, h4, h5, fun k hk => ?_, fun k x r hx hr => own_putObj (h7 k x r hx hr) hD⟩
    have hne : g ≠ D := by
      rintro rfl
      have c0 := h6 k hk
      unfold World.cell? at c0
      simp only [hD] at c0
      cases c0
    exact (cell_same (World.putObj_heap_other hne)).trans (h6 k hk)
end Go.Proofs.YtfmjeggomphliaaGreatDoor.Rf
