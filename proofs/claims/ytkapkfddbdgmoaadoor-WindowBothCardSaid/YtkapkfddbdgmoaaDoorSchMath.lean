/- Plain facts: the text of a scheme, and what it is read as. -/
import Derived.Test.YtkapkfddbdgmoaaDoorSchWalk2
import Derived.Test.YtkapkfddbdgmoaaDoorNumWalk
import Derived.Test.YtkapkfddbdgmoaaDoorCutMath
import Derived.Lib.SlicesS
set_option linter.unusedVariables false
namespace Go.Proofs.YtkapkfddbdgmoaaDoor.Sc
open Go.RowKit Go Ba

/-- The words of the kinds. -/
def swords : List ByteArray := [⟨#[]⟩, ⟨#[104, 111, 117, 114, 108, 121]⟩, ⟨#[100, 97, 105, 108, 121]⟩, ⟨#[119, 101, 101, 107, 108, 121]⟩, ⟨#[109, 111, 110, 116, 104, 108, 121]⟩, ⟨#[115, 116, 97, 116, 105, 99]⟩]
def sword (k : Nat) : ByteArray := swords.getD k ByteArray.empty
theorem k6 {k : Nat} (h : k < 6) : k = 0 ∨ k = 1 ∨ k = 2 ∨ k = 3 ∨ k = 4 ∨ k = 5 := by omega
theorem sword_size (k : Nat) (h : k < 6) : (sword k).size ≤ 7 := by
  rcases k6 h with rfl | rfl | rfl | rfl | rfl | rfl <;> decide
theorem sword_sp (k : Nat) (h : k < 6) : ∀ x ∈ (sword k).data.toList, x ≠ 32 := by
  rcases k6 h with rfl | rfl | rfl | rfl | rfl | rfl <;> decide
theorem sword_idx (k : Nat) (h : k < 6) : Lib.idxOfS swords (sword k) = k := by
  rcases k6 h with rfl | rfl | rfl | rfl | rfl | rfl <;> decide +kernel
theorem idx_rng : ∀ (zs : List ByteArray) (x : ByteArray) (i : Nat), -1 ≤ Lib.idxFromS zs x i ∧ Lib.idxFromS zs x i < i + zs.length := by
  intro zs x
  induction zs with
  | nil => intro i; unfold Lib.idxFromS; simp; omega
  | cons z zs ih =>
    intro i
    unfold Lib.idxFromS
    split
    · simp; omega
    · have := ih (i + 1)
      simp only [List.length_cons]; omega
theorem idx_bd (x : ByteArray) : -1 ≤ Lib.idxOfS swords x ∧ Lib.idxOfS swords x < 6 := by
  have := idx_rng swords x 0
  unfold Lib.idxOfS
  simpa [swords] using this
/-- A scheme's text. -/
def showB (k : Nat) (f l : Int) : ByteArray := sword k ++ ⟨#[32]⟩ ++ ⟨(Lib.itoa f).toArray⟩ ++ ⟨#[46, 46]⟩ ++ ⟨(Lib.itoa l).toArray⟩
theorem showB_list (k : Nat) (f l : Int) : (showB k f l).data.toList = (sword k).data.toList ++ ((32 :: []) ++ (Lib.itoa f ++ ((46 :: [46]) ++ Lib.itoa l))) := by
  unfold showB
  rw [add_data, add_data, add_data, add_data]
  simp
theorem itoa_dot (f : Int) : ∀ x ∈ Lib.itoa f, x ≠ 46 := by
  intro x hx h
  subst h
  rcases Nu.itoa_all f 46 hx with h | h
  · revert h; decide
  · revert h; decide
theorem cut_word (k : Nat) (h : k < 6) (f l : Int) : Lib.cut (showB k f l).data.toList [32] = ((sword k).data.toList, Lib.itoa f ++ ((46 :: [46]) ++ Lib.itoa l), true) := by
  rw [showB_list]
  exact Nu.cut_app 32 [] _ _ (sword_sp k h)
theorem cut_dots (f l : Int) : Lib.cut (Lib.itoa f ++ ((46 :: [46]) ++ Lib.itoa l)) [46, 46] = (Lib.itoa f, Lib.itoa l, true) :=
  Nu.cut_app 46 [46] _ _ (itoa_dot f)
theorem showB_ne (k : Nat) (f l : Int) : (showB k f l).data.toList ≠ [] := by
  rw [showB_list]; simp
theorem showB_len (k : Nat) (h : k < 6) (f l : Int) (f0 : -9223372036854775808 ≤ f) (f1 : f ≤ 9223372036854775807) (l0 : -9223372036854775808 ≤ l) (l1 : l ≤ 9223372036854775807) : (showB k f l).size ≤ 60 := by
  have := sword_size k h
  rw [size_data] at this
  have := Lib.itoa_length_le f f0 f1
  have := Lib.itoa_length_le l l0 l1
  rw [size_data, showB_list]
  simp only [List.length_append, List.length_cons, List.length_nil]
  omega
/-- What a text is read as: a right scheme and no error, or nothing and the error. -/
def Reads (t : List UInt8) (k f l er : Int) : Prop :=
  (er = 0 ∧ rightS k f l = true ∧ (showB k.toNat f l).data.toList = t) ∨ (er = 20 ∧ k = 0 ∧ f = 0 ∧ l = 0 ∧ ∀ k f l, rightS k f l = true → (showB k.toNat f l).data.toList ≠ t)
theorem rs_k {k f l : Int} (h : rightS k f l = true) : k.toNat < 6 ∧ (k.toNat : Int) = k ∧ 1 ≤ k ∧ -9223372036854775808 ≤ f ∧ f ≤ 9223372036854775807 ∧ -9223372036854775808 ≤ l ∧ l ≤ 9223372036854775807 := by
  obtain ⟨a, b, c, d, e, _, g, _⟩ := rs_iff h
  omega
/-- The parts of a text that is a right scheme's. -/
theorem parts_of {k f l : Int} (h : rightS k f l = true) :
    (Lib.cut (showB k.toNat f l).data.toList [32]).1 = (sword k.toNat).data.toList ∧ Lib.cut (Lib.cut (showB k.toNat f l).data.toList [32]).2.1 [46, 46] = (Lib.itoa f, Lib.itoa l, true) := by
  obtain ⟨a, _⟩ := rs_k h
  rw [cut_word _ a]
  exact ⟨rfl, cut_dots f l⟩
theorem reads_show {k f l k' f' l' er : Int} (h : rightS k f l = true) (hr : Reads (showB k.toNat f l).data.toList k' f' l' er) : k' = k ∧ f' = f ∧ l' = l ∧ er = 0 := by
  rcases hr with ⟨rfl, h2, h3⟩ | ⟨rfl, rfl, rfl, rfl, hx⟩
  · have p := parts_of h
    have q := parts_of h2
    rw [h3, p.1, p.2] at q
    obtain ⟨q1, q2⟩ := q
    simp only [Prod.mk.injEq, and_true] at q2
    obtain ⟨a, a1, _, a2, a3, a4, a5⟩ := rs_k h
    obtain ⟨b, b1, _, b2, b3, b4, b5⟩ := rs_k h2
    have e1 := Nu.itoa_inj a2 a3 b2 b3 q2.1
    have e2 := Nu.itoa_inj a4 a5 b4 b5 q2.2
    have e3 : sword k.toNat = sword k'.toNat := Go.WideShapes.bytes_inj q1
    have i1 := sword_idx _ a
    rw [e3, sword_idx _ b] at i1
    exact ⟨by omega, e1.symm, e2.symm, rfl⟩
  · exact absurd rfl (hx k f l h)
end Go.Proofs.YtkapkfddbdgmoaaDoor.Sc
