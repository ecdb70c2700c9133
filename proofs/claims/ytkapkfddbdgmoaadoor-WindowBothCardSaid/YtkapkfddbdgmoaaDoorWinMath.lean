/- Plain facts: the text of a mapping, and what it is read as. -/
import Derived.Test.YtkapkfddbdgmoaaDoorWinWalk2
set_option linter.unusedVariables false
namespace Go.Proofs.YtkapkfddbdgmoaaDoor.Wi
open Go.RowKit Go Ba Sc

theorem wword_size (k : Nat) (h : k < 6) : (wword k).size ≤ 7 := by
  rcases k6 h with rfl | rfl | rfl | rfl | rfl | rfl <;> decide
theorem wword_sp (k : Nat) (h : k < 6) : ∀ x ∈ (wword k).data.toList, x ≠ 32 := by
  rcases k6 h with rfl | rfl | rfl | rfl | rfl | rfl <;> decide
theorem wword_idx (k : Nat) (h : k < 6) : Lib.idxOfS wwords (wword k) = k := by
  rcases k6 h with rfl | rfl | rfl | rfl | rfl | rfl <;> decide +kernel
theorem wword_ne (k : Nat) (h1 : 1 ≤ k) (h : k < 6) : (wword k).data.toList ≠ [] := by
  rcases k6 h with rfl | rfl | rfl | rfl | rfl | rfl
  · omega
  all_goals decide
theorem widx_bd (x : ByteArray) : -1 ≤ Lib.idxOfS wwords x ∧ Lib.idxOfS wwords x < 6 := by
  have := idx_rng wwords x 0
  unfold Lib.idxOfS
  simpa [wwords] using this
/-- A mapping's text. -/
def mapB (k : Nat) (n : Int) : ByteArray := if n = 0 then wword k else wword k ++ ⟨#[32]⟩ ++ ⟨(Lib.itoa n).toArray⟩
theorem mapB_list (k : Nat) (n : Int) (h : n ≠ 0) : (mapB k n).data.toList = (wword k).data.toList ++ ((32 :: []) ++ Lib.itoa n) := by
  unfold mapB
  rw [if_neg h, add_data, add_data]
  simp
theorem mapB_zero (k : Nat) : mapB k 0 = wword k := by unfold mapB; rw [if_pos rfl]
theorem index_no (c : UInt8) : ∀ (a : List UInt8), (∀ x ∈ a, x ≠ c) → Lib.index a [c] = -1
  | [], _ => rfl
  | b :: a, h => by
    have hb : b ≠ c := h b (by simp)
    have ih := index_no c a (fun x hx => h x (by simp [hx]))
    unfold Lib.index
    have hp : [c].isPrefixOf (b :: a) = false := by
      simp only [List.isPrefixOf, Bool.and_eq_false_iff]
      left
      simpa using fun h => hb h.symm
    rw [hp, ih]
    simp
theorem cut_no (c : UInt8) (a : List UInt8) (h : ∀ x ∈ a, x ≠ c) : Lib.cut a [c] = (a, [], false) := by
  unfold Lib.cut
  rw [index_no c a h, if_neg (by decide)]
theorem form_rng {k n : Int} (h : formB k n = true) : k.toNat < 6 ∧ (k.toNat : Int) = k ∧ 1 ≤ k.toNat ∧ -512 ≤ n ∧ n ≤ 512 := by
  unfold formB at h; rw [decide_eq_true_eq] at h; omega
/-- The parts of a text that is a mapping's. -/
theorem mparts {k n : Int} (h : formB k n = true) : (Lib.cut (mapB k.toNat n).data.toList [32]).1 = (wword k.toNat).data.toList ∧ (n = 0 → (Lib.cut (mapB k.toNat n).data.toList [32]).2.1 = []) ∧ (n ≠ 0 → (Lib.cut (mapB k.toNat n).data.toList [32]).2.1 = Lib.itoa n) := by
  obtain ⟨k6, _, _, _⟩ := form_rng h
  by_cases hn : n = 0
  · subst hn
    rw [mapB_zero, cut_no 32 _ (wword_sp _ k6)]
    exact ⟨rfl, fun _ => rfl, fun h => absurd rfl h⟩
  · rw [mapB_list _ _ hn]
    have := Nu.cut_app 32 [] (wword k.toNat).data.toList (Lib.itoa n) (wword_sp _ k6)
    rw [this]
    exact ⟨rfl, fun h => absurd h hn, fun _ => rfl⟩
theorem mapB_ne {k n : Int} (h : formB k n = true) : (mapB k.toNat n).data.toList ≠ [] := by
  obtain ⟨k6, _, k1, _⟩ := form_rng h
  by_cases hn : n = 0
  · subst hn; rw [mapB_zero]; exact wword_ne _ k1 k6
  · rw [mapB_list _ _ hn]; simp
theorem mapB_len {k n : Int} (h : formB k n = true) : (mapB k.toNat n).size ≤ 60 := by
  obtain ⟨k6, _, k1, n0, n1⟩ := form_rng h
  have := wword_size _ k6
  by_cases hn : n = 0
  · subst hn; rw [mapB_zero]; omega
  · have := Lib.itoa_length_le n (by omega) (by omega)
    rw [size_data] at *
    rw [mapB_list _ _ hn]
    simp only [List.length_append, List.length_cons, List.length_nil]
    omega
/-- What a text is read as: a mapping of a right form and no error, or nothing and the error. -/
def MReads (t : List UInt8) (k n er : Int) : Prop :=
  (er = 0 ∧ formB k n = true ∧ (mapB k.toNat n).data.toList = t) ∨ (er = 20 ∧ k = 0 ∧ n = 0 ∧ ∀ k n, formB k n = true → (mapB k.toNat n).data.toList ≠ t)
theorem mreads_show {k n k' n' er : Int} (h : formB k n = true) (hr : MReads (mapB k.toNat n).data.toList k' n' er) : k' = k ∧ n' = n ∧ er = 0 := by
  rcases hr with ⟨rfl, h2, h3⟩ | ⟨rfl, rfl, rfl, hx⟩
  · obtain ⟨p1, p2, p3⟩ := mparts h
    obtain ⟨q1, q2, q3⟩ := mparts h2
    rw [h3] at q1 q2 q3
    obtain ⟨a, a1, _, a2, a3⟩ := form_rng h
    obtain ⟨b, b1, _, b2, b3⟩ := form_rng h2
    have e3 : wword k.toNat = wword k'.toNat := Go.WideShapes.bytes_inj (p1.symm.trans q1)
    have i1 := wword_idx _ a
    rw [e3, wword_idx _ b] at i1
    refine ⟨by omega, ?_, rfl⟩
    have ne : ∀ x : Int, Lib.itoa x ≠ [] := fun x hx => by
      obtain ⟨c, r, hc, _⟩ := Nu.itoa_head x
      rw [hc] at hx; cases hx
    by_cases hn : n = 0
    · by_cases hn' : n' = 0
      · omega
      · exact absurd ((q3 hn').symm.trans (p2 hn)) (ne _)
    · by_cases hn' : n' = 0
      · exact absurd ((p3 hn).symm.trans (q2 hn')) (ne _)
      · exact (Nu.itoa_inj (by omega) (by omega) (by omega) (by omega) ((p3 hn).symm.trans (q3 hn'))).symm
  · exact absurd rfl (hx k n h)
/-- What was read off the parts, if the text is a mapping's. -/
theorem mfound {t a b : ByteArray} {i k n k' n' : Int} (h1 : (Lib.cut t.data.toList [32]).1 = a.data.toList) (h2 : (Lib.cut t.data.toList [32]).2.1 = b.data.toList)
    (hi : Lib.idxOfS wwords a = i) (hk : k' = if i < 0 then 0 else i) (hn : ∀ m, Lib.atoiAll b.data.toList = .ok m → n' = m) (hn0 : b.data.toList = [] → n' = 0)
    (hr : formB k n = true) (ht : (mapB k.toNat n).data.toList = t.data.toList) : k' = k ∧ n' = n := by
  obtain ⟨a0, a1, _, a2, a3⟩ := form_rng hr
  obtain ⟨p1, p2, p3⟩ := mparts hr
  rw [ht, h1] at p1
  rw [ht, h2] at p2 p3
  have e : a = wword k.toNat := Go.WideShapes.bytes_inj p1
  rw [e, wword_idx _ a0] at hi
  refine ⟨by rw [hk, ← hi, if_neg (by omega)]; exact a1, ?_⟩
  by_cases hz : n = 0
  · rw [hz]; exact hn0 (p2 hz)
  · exact hn n (by rw [p3 hz]; exact Nu.atoi_itoa n (by omega) (by omega))
end Go.Proofs.YtkapkfddbdgmoaaDoor.Wi
