/- Plain facts: what is written between quotes is read back; the value that a text stands for. No program in sight. -/
import Derived.Test.YtfmjeggomphliaaGreatDoorValWalk3
import Derived.Test.YtfmjeggomphliaaGreatDoorNumMath
set_option linter.unusedVariables false
namespace Go.Proofs.YtfmjeggomphliaaGreatDoor.Va
open Go.RowKit Go Ba

/-- One byte of what is between quotes. -/
def unqS (x : List UInt8 × Bool) (c : UInt8) : List UInt8 × Bool := if c = 92 ∧ x.2 = false then (x.1, true) else (x.1 ++ [c], false)
/-- The text between quotes, as far as it may be one. -/
def unqL (l : List UInt8) : List UInt8 × Bool := l.foldl unqS ([], false)
theorem unq_snoc (l : List UInt8) (k : Nat) (b : UInt8) (h : l[k]? = some b) : unqL (l.take (k + 1)) = unqS (unqL (l.take k)) b := by
  unfold unqL
  rw [take_one l k b h, List.foldl_append]; rfl
theorem unq_len (l : List UInt8) : (unqL l).1.length ≤ l.length := by
  have h : ∀ (l : List UInt8) (x : List UInt8 × Bool), (l.foldl unqS x).1.length ≤ x.1.length + l.length := by
    intro l
    induction l with
    | nil => intro x; simp
    | cons c l ih =>
      intro x
      simp only [List.foldl_cons, List.length_cons]
      have := ih (unqS x c)
      have h2 : (unqS x c).1.length ≤ x.1.length + 1 := by unfold unqS; split <;> simp
      omega
  have := h l ([], false)
  simpa [unqL] using this
theorem unq_esc (t : List UInt8) : ∀ o, (esc t).foldl unqS (o, false) = (o ++ t, false) := by
  induction t with
  | nil => intro o; simp [esc]
  | cons b t ih =>
    intro o
    by_cases hb : b = 34 ∨ b = 92
    · have e : esc (b :: t) = 92 :: b :: esc t := by simp [esc, hb]
      rw [e, List.foldl_cons, List.foldl_cons]
      have e1 : unqS (o, false) 92 = (o, true) := by simp [unqS]
      have e2 : unqS (o, true) b = (o ++ [b], false) := by simp [unqS]
      rw [e1, e2, ih]
      simp
    · have e : esc (b :: t) = b :: esc t := by simp [esc, hb]
      rw [e, List.foldl_cons]
      have e2 : unqS (o, false) b = (o ++ [b], false) := by
        have : b ≠ 92 := fun h => hb (.inr h)
        simp [unqS, this]
      rw [e2, ih]
      simp
theorem unq_quoted (t : List UInt8) : (unqL (esc t)).1 = t := by
  unfold unqL
  rw [unq_esc]; simp

/-- Does a text stand between quotes? -/
def isQ (l : List UInt8) : Bool := decide (1 < l.length) && decide (l.head? = some 34) && decide (l.getLast? = some 34)
/-- What is between the first byte and the last. -/
def inner (l : List UInt8) : List UInt8 := (l.drop 1).dropLast
theorem isQ_quoted (t : List UInt8) : isQ (quotedL t) = true := by
  have e : (quotedL t).getLast? = some 34 := by
    unfold quotedL
    rw [show 34 :: esc t ++ [34] = (34 :: esc t) ++ [34] from rfl, List.getLast?_concat]
  unfold isQ
  rw [e]
  unfold quotedL
  simp
theorem inner_quoted (t : List UInt8) : inner (quotedL t) = esc t := by
  unfold inner quotedL
  simp
def nullL : List UInt8 := [110, 117, 108, 108]
/-- The value that a text may stand for. -/
def candV (l : List UInt8) : Option (Int × Int × List UInt8) :=
  if l = nullL then some (0, 0, []) else if isQ l = true then some (2, 0, (unqL (inner l)).1) else match Lib.atoiAll l with
    | .ok n => some (1, n, [])
    | _ => none
theorem cand_null : candV nullL = some (0, 0, []) := rfl
theorem cand_quoted (t : List UInt8) : candV (quotedL t) = some (2, 0, t) := by
  unfold candV
  rw [if_neg (by unfold quotedL nullL; simp), if_pos (isQ_quoted t), inner_quoted, unq_quoted]
theorem cand_num (n : Int) (h0 : -9223372036854775808 ≤ n) (h1 : n ≤ 9223372036854775807) : candV (Lib.itoa n) = some (1, n, []) := by
  obtain ⟨c, r, hc, hd⟩ := Nu.itoa_head n
  have hn : Lib.itoa n ≠ nullL := by
    rw [hc]; unfold nullL
    intro h
    injection h with h1 h2
    subst h1
    rcases hd with hd | hd
    · revert hd; decide
    · revert hd; decide
  have hq : isQ (Lib.itoa n) = false := by
    rw [hc]; unfold isQ
    have : c ≠ 34 := by
      rintro rfl
      rcases hd with hd | hd
      · revert hd; decide
      · revert hd; decide
    simp [this]
  unfold candV
  rw [if_neg hn, if_neg (by rw [hq]; decide), Nu.atoi_itoa n h0 h1]
/-- What a text is read as: a value and no error, or nothing and the error. -/
def ParsesTo (l : List UInt8) (k n : Int) (t : List UInt8) (er : Int) : Prop :=
  (er = 0 ∧ candV l = some (k, n, t) ∧ showL k n ⟨t.toArray⟩ = l) ∨
  (er = 20 ∧ k = 0 ∧ n = 0 ∧ t = [] ∧ ∀ k' n' t', candV l = some (k', n', t') → showL k' n' ⟨t'.toArray⟩ ≠ l)
theorem parses_ex (l : List UInt8) : ∃ k n t er, ParsesTo l k n t er := by
  match h : candV l with
  | none => exact ⟨0, 0, [], 20, .inr ⟨rfl, rfl, rfl, rfl, fun _ _ _ h' => by rw [h] at h'; cases h'⟩⟩
  | some (k, n, t) =>
    by_cases hs : showL k n ⟨t.toArray⟩ = l
    · exact ⟨k, n, t, 0, .inl ⟨rfl, h, hs⟩⟩
    · refine ⟨0, 0, [], 20, .inr ⟨rfl, rfl, rfl, rfl, fun k' n' t' h' => ?_⟩⟩
      rw [h] at h'
      simp only [Option.some.injEq, Prod.mk.injEq] at h'
      obtain ⟨rfl, rfl, rfl⟩ := h'
      exact hs
theorem list_eta (s : ByteArray) : (⟨s.data.toList.toArray⟩ : ByteArray) = s := by simp
/-- A right value is read back from its text. -/
theorem parses_show {k n : Int} {t : ByteArray} (hr : rightB k n t = true) (h0 : -9223372036854775808 ≤ n) (h1 : n ≤ 9223372036854775807) : ParsesTo (showL k n t) k n t.data.toList 0 := by
  have hk := (right_text hr).1
  refine .inl ⟨rfl, ?_, by rw [list_eta]⟩
  unfold showL
  rw [if_pos hr]
  rcases hk with rfl | rfl | rfl
  · have h2 : n = 0 ∧ t = ⟨#[]⟩ := by
      unfold rightB at hr
      rw [if_pos rfl, Bool.and_eq_true] at hr
      exact ⟨by simpa using hr.1, (empty_iff t).1 hr.2⟩
    obtain ⟨rfl, rfl⟩ := h2
    rfl
  · have h2 : t = ⟨#[]⟩ := by
      unfold rightB at hr
      rw [if_neg (by decide), if_pos rfl] at hr
      exact (empty_iff t).1 hr
    subst h2
    rw [if_neg (by decide), if_pos rfl, cand_num n h0 h1]
  · have h2 : n = 0 := by
      unfold rightB at hr
      rw [if_neg (by decide), if_neg (by decide), if_pos rfl, Bool.and_eq_true] at hr
      simpa using hr.1
    subst h2
    rw [if_neg (by decide), if_neg (by decide), cand_quoted]
theorem show_right {k n : Int} {t : ByteArray} {l : List UInt8} (h : showL k n t = l) (hl : l ≠ []) : rightB k n t = true := by
  by_cases hr : rightB k n t = true
  · exact hr
  · unfold showL at h
    rw [if_neg hr] at h
    exact absurd h.symm hl
end Go.Proofs.YtfmjeggomphliaaGreatDoor.Va
