/- Plain facts: a text in its lines, its parts, its cells. No program in sight. -/
import Derived.Test.YtfmjeggomphliaaGreatDoorValWalk2
import Derived.Test.YtfmjeggomphliaaGreatDoorCutMath
import Derived.Lib.Join
set_option linter.unusedVariables false
set_option linter.unusedSimpArgs false
namespace Go.Proofs.YtfmjeggomphliaaGreatDoor.Tb
open Go.RowKit Go Ba Va

/-! ### Lines -/
def linesL : List UInt8 → List (List UInt8)
  | [] => []
  | c :: r => if c = 10 then [10] :: linesL r else match linesL r with
    | [] => [[c]]
    | x :: xs => (c :: x) :: xs
theorem lines_ne {c : UInt8} {r x : List UInt8} {xs : List (List UInt8)} (h : c ≠ 10) (e : linesL r = x :: xs) : linesL (c :: r) = (c :: x) :: xs := by
  show (if c = 10 then [10] :: linesL r else match linesL r with | [] => [[c]] | x :: xs => (c :: x) :: xs) = _
  rw [if_neg h, e]
theorem lines_lone {c : UInt8} {r : List UInt8} (h : c ≠ 10) (e : linesL r = []) : linesL (c :: r) = [[c]] := by
  show (if c = 10 then [10] :: linesL r else match linesL r with | [] => [[c]] | x :: xs => (c :: x) :: xs) = _
  rw [if_neg h, e]
theorem lines_some : ∀ (l : List UInt8) (i : Nat), Lib.indexByte l 10 = i → linesL l = l.take (i + 1) :: linesL (l.drop (i + 1))
  | [], i, h => by
    have h' : (-1 : Int) = i := h
    omega
  | b :: l, i, h => by
    unfold Lib.indexByte at h
    have hg := Lib.indexByte_ge l 10
    by_cases hb : b = 10
    · subst hb
      rw [if_pos (by decide)] at h
      obtain rfl : i = 0 := by omega
      rfl
    · rw [if_neg (by simpa using hb)] at h
      split at h
      · omega
      · rename_i h2
        have h2' : ¬ Lib.indexByte l 10 = -1 := by simpa using h2
        obtain ⟨j, rfl⟩ : ∃ j, i = j + 1 := ⟨i - 1, by omega⟩
        exact lines_ne hb (lines_some l j (by omega))
theorem lines_none : ∀ (l : List UInt8), Lib.indexByte l 10 = -1 → l ≠ [] → linesL l = [l]
  | [], _, h => absurd rfl h
  | b :: l, h, _ => by
    unfold Lib.indexByte at h
    have hg := Lib.indexByte_ge l 10
    by_cases hb : b = 10
    · subst hb
      rw [if_pos (by decide)] at h
      omega
    · rw [if_neg (by simpa using hb)] at h
      split at h
      · rename_i h2
        have h2' : Lib.indexByte l 10 = -1 := by simpa using h2
        by_cases hn : l = []
        · subst hn; exact lines_lone hb rfl
        · exact lines_ne hb (lines_none l h2' hn)
      · omega
theorem lines_app : ∀ (a r : List UInt8), (∀ x ∈ a, x ≠ 10) → linesL (a ++ [10] ++ r) = (a ++ [10]) :: linesL r
  | [], r, _ => rfl
  | c :: a, r, h => by
    have hc : c ≠ 10 := h c (by simp)
    have ih := lines_app a r (fun x hx => h x (by simp [hx]))
    exact lines_ne hc ih

/-! ### Parts -/
def partsL : List UInt8 → List (List UInt8)
  | [] => [[]]
  | [c] => [[c]]
  | c :: d :: r => if c = 44 ∧ d = 32 then [] :: partsL r else match partsL (d :: r) with
    | [] => [[c]]
    | x :: xs => (c :: x) :: xs
theorem pre2 (c d : UInt8) (r : List UInt8) : ([44, 32] : List UInt8).isPrefixOf (c :: d :: r) = decide (c = 44 ∧ d = 32) := by
  show ((44 == c) && ((32 == d) && true)) = _
  rw [Bool.eq_iff_iff]
  simp only [Bool.and_true, Bool.and_eq_true, beq_iff_eq, decide_eq_true_eq]
  constructor
  · rintro ⟨rfl, rfl⟩; exact ⟨rfl, rfl⟩
  · rintro ⟨rfl, rfl⟩; exact ⟨rfl, rfl⟩
theorem parts_ne {c d : UInt8} {r x : List UInt8} {xs : List (List UInt8)} (h : ¬ (c = 44 ∧ d = 32)) (e : partsL (d :: r) = x :: xs) : partsL (c :: d :: r) = (c :: x) :: xs := by
  show (if c = 44 ∧ d = 32 then [] :: partsL r else match partsL (d :: r) with | [] => [[c]] | x :: xs => (c :: x) :: xs) = _
  rw [if_neg h, e]
theorem parts_hit {c d : UInt8} {r : List UInt8} (h : c = 44 ∧ d = 32) : partsL (c :: d :: r) = [] :: partsL r := by
  show (if c = 44 ∧ d = 32 then [] :: partsL r else match partsL (d :: r) with | [] => [[c]] | x :: xs => (c :: x) :: xs) = _
  rw [if_pos h]
theorem pre1 (c : UInt8) : ([44, 32] : List UInt8).isPrefixOf [c] = false := by simp [List.isPrefixOf]
theorem parts_some : ∀ (l : List UInt8) (i : Nat), Lib.index l [44, 32] = i → partsL l = l.take i :: partsL (l.drop (i + 2))
  | [], i, h => by
    have h' : (-1 : Int) = i := h
    omega
  | [c], i, h => by
    unfold Lib.index at h
    rw [pre1] at h
    have h' : (-1 : Int) = i := h
    omega
  | c :: d :: r, i, h => by
    unfold Lib.index at h
    have hg := Lib.index_ge (d :: r) [44, 32]
    rw [pre2] at h
    by_cases hc : c = 44 ∧ d = 32
    · rw [decide_eq_true hc, if_pos rfl] at h
      obtain rfl : i = 0 := by omega
      exact parts_hit hc
    · rw [decide_eq_false hc, if_neg (by decide)] at h
      split at h
      · omega
      · rename_i h2
        have h2' : ¬ Lib.index (d :: r) [44, 32] = -1 := by simpa using h2
        obtain ⟨j, rfl⟩ : ∃ j, i = j + 1 := ⟨i - 1, by omega⟩
        exact parts_ne hc (parts_some (d :: r) j (by omega))
theorem parts_none : ∀ (l : List UInt8), Lib.index l [44, 32] = -1 → partsL l = [l]
  | [], _ => rfl
  | [c], _ => rfl
  | c :: d :: r, h => by
    unfold Lib.index at h
    have hg := Lib.index_ge (d :: r) [44, 32]
    rw [pre2] at h
    by_cases hc : c = 44 ∧ d = 32
    · rw [decide_eq_true hc, if_pos rfl] at h
      omega
    · rw [decide_eq_false hc, if_neg (by decide)] at h
      split at h
      · rename_i h2
        exact parts_ne hc (parts_none (d :: r) (by simpa using h2))
      · omega
theorem parts_app (a r : List UInt8) (h : ∀ x ∈ a, x ≠ 44) : partsL (a ++ ([44, 32] ++ r)) = a :: partsL r := by
  have hi := Nu.index_app 44 [32] a r h
  rw [parts_some _ _ hi]
  have e1 : (a ++ ([44, 32] ++ r)).take a.length = a := List.take_left' rfl
  have e2 : (a ++ ([44, 32] ++ r)).drop (a.length + 2) = r := by
    rw [← List.drop_drop, List.drop_left' rfl]; rfl
  rw [e1, e2]
theorem index_no : ∀ (a : List UInt8), (∀ x ∈ a, x ≠ 44) → Lib.index a [44, 32] = -1
  | [], _ => rfl
  | c :: a, h => by
    have hc : c ≠ 44 := h c (by simp)
    unfold Lib.index
    have hp : ([44, 32] : List UInt8).isPrefixOf (c :: a) = false := by
      simp only [List.isPrefixOf, Bool.and_eq_false_iff]
      left
      simpa using fun e => hc e.symm
    rw [hp, index_no a (fun x hx => h x (by simp [hx]))]
    rfl
theorem join_two (x y : List UInt8) (r : List (List UInt8)) (sep : List UInt8) : Lib.join (x :: y :: r) sep = x ++ (sep ++ Lib.join (y :: r) sep) := by
  rw [Lib.join_cons, Lib.join_cons]
  simp [Lib.joinTail]
theorem parts_join : ∀ (xs : List (List UInt8)), xs ≠ [] → (∀ x ∈ xs, ∀ b ∈ x, b ≠ 44) → partsL (Lib.join xs [44, 32]) = xs
  | [], h, _ => absurd rfl h
  | [x], _, h => by rw [Lib.join_one, parts_none _ (index_no x (h x (by simp)))]
  | x :: y :: r, _, h => by
    rw [join_two, parts_app x _ (h x (by simp)), parts_join (y :: r) (by simp) (fun z hz => h z (by simp [hz]))]

/-! ### Cells -/
structure CS where
  out : List (List UInt8)
  beg : Nat
  ins : Bool
  esc : Bool
def cstep (l : List UInt8) (st : CS) (i : Nat) (c : UInt8) : CS :=
  if st.esc = true then ⟨st.out, st.beg, st.ins, false⟩
  else if c = 92 ∧ st.ins = true then ⟨st.out, st.beg, st.ins, true⟩
  else if c = 34 then ⟨st.out, st.beg, !st.ins, false⟩
  else if c = 44 ∧ st.ins = false ∧ Lib.hasPrefix (l.drop i) [44, 32] = true then ⟨st.out ++ [(l.take i).drop st.beg], i + 2, false, false⟩
  else st
def cgo (l : List UInt8) : Nat → CS
  | 0 => ⟨[], 0, false, false⟩
  | k + 1 => match l[k]? with
    | some c => cstep l (cgo l k) k c
    | none => cgo l k
def cellsL (l : List UInt8) : List (List UInt8) := (cgo l l.length).out ++ [l.drop (min (cgo l l.length).beg l.length)]
theorem cgo_at {l : List UInt8} {k : Nat} {c : UInt8} (h : l[k]? = some c) : cgo l (k + 1) = cstep l (cgo l k) k c := by
  show (match l[k]? with | some c => cstep l (cgo l k) k c | none => cgo l k) = _
  rw [h]
/-- Where a cell begins: not behind the next byte but one, and then that is a blank. -/
theorem cgo_beg (l : List UInt8) : ∀ k, (cgo l k).beg ≤ k ∨ ((cgo l k).beg = k + 1 ∧ l[k]? = some 32)
  | 0 => .inl (Nat.le_refl _)
  | k + 1 => by
    have ih := cgo_beg l k
    cases hc : l[k]? with
    | none =>
      have e : cgo l (k + 1) = cgo l k := by
        show (match l[k]? with | some c => cstep l (cgo l k) k c | none => cgo l k) = _
        rw [hc]
      rw [e]
      rcases ih with h | ⟨h, h2⟩
      · exact .inl (by omega)
      · rw [hc] at h2; cases h2
    | some c =>
      rw [cgo_at hc]
      unfold cstep
      have keep : (cgo l k).beg ≤ k + 1 := by rcases ih with h | ⟨h, _⟩ <;> omega
      split
      · exact .inl keep
      · split
        · exact .inl keep
        · split
          · exact .inl keep
          · split
            · rename_i h
              refine .inr ⟨rfl, ?_⟩
              have hp := h.2.2
              unfold Lib.hasPrefix at hp
              rw [List.isPrefixOf_iff_prefix] at hp
              obtain ⟨r, hr⟩ := hp
              have : (l.drop k)[1]? = some 32 := by rw [← hr]; rfl
              rw [List.getElem?_drop] at this
              exact this
            · exact .inl keep
theorem cgo_len (l : List UInt8) : ∀ k, (cgo l k).out.length ≤ k
  | 0 => Nat.le_refl _
  | k + 1 => by
    have ih := cgo_len l k
    cases hc : l[k]? with
    | none =>
      have e : cgo l (k + 1) = cgo l k := by
        show (match l[k]? with | some c => cstep l (cgo l k) k c | none => cgo l k) = _
        rw [hc]
      rw [e]; omega
    | some c =>
      rw [cgo_at hc]
      unfold cstep
      split
      · show (cgo l k).out.length ≤ _; omega
      · split
        · show (cgo l k).out.length ≤ _; omega
        · split
          · show (cgo l k).out.length ≤ _; omega
          · split
            · show ((cgo l k).out ++ [_]).length ≤ _
              rw [List.length_append]; simp; omega
            · omega
/-- What a piece of text does to the marks, where no comma stands outside quotes. -/
def flag : List UInt8 → Bool → Bool → Option (Bool × Bool)
  | [], i, e => some (i, e)
  | c :: r, i, e => if e = true then flag r i false else if c = 92 ∧ i = true then flag r i true else if c = 34 then flag r (!i) false else if c = 44 ∧ i = false then none else flag r i false
theorem flag_cons (c : UInt8) (r : List UInt8) (i e : Bool) : flag (c :: r) i e = if e = true then flag r i false else if c = 92 ∧ i = true then flag r i true else if c = 34 then flag r (!i) false else if c = 44 ∧ i = false then none else flag r i false := rfl
theorem flag_app : ∀ (x y : List UInt8) (i e i' e' : Bool), flag x i e = some (i', e') → flag (x ++ y) i e = flag y i' e'
  | [], y, i, e, i', e', h => by
    simp only [flag, Option.some.injEq, Prod.mk.injEq] at h
    rw [h.1, h.2]; rfl
  | c :: x, y, i, e, i', e', h => by
    rw [flag_cons] at h
    rw [List.cons_append, flag_cons]
    split at h
    · rename_i g; rw [if_pos g]; exact flag_app x y _ _ _ _ h
    · rename_i g
      rw [if_neg g]
      split at h
      · rename_i g2; rw [if_pos g2]; exact flag_app x y _ _ _ _ h
      · rename_i g2
        rw [if_neg g2]
        split at h
        · rename_i g3; rw [if_pos g3]; exact flag_app x y _ _ _ _ h
        · rename_i g3
          rw [if_neg g3]
          split at h
          · cases h
          · rename_i g4; rw [if_neg g4]; exact flag_app x y _ _ _ _ h
theorem flag_plain : ∀ (x : List UInt8), (∀ b ∈ x, b ≠ 92 ∧ b ≠ 34 ∧ b ≠ 44) → flag x false false = some (false, false)
  | [], _ => rfl
  | c :: x, h => by
    obtain ⟨h1, h2, h3⟩ := h c (by simp)
    rw [flag_cons]
    rw [if_neg (by decide), if_neg (fun g => h1 g.1), if_neg h2, if_neg (fun g => h3 g.1)]
    exact flag_plain x (fun b hb => h b (by simp [hb]))
theorem flag_esc : ∀ (t : List UInt8), flag (esc t) true false = some (true, false)
  | [] => rfl
  | b :: t => by
    have e : esc (b :: t) = esc [b] ++ esc t := by rw [← esc_app]; rfl
    rw [e]
    have h : flag (esc [b]) true false = some (true, false) := by
      by_cases hb : b = 34 ∨ b = 92
      · rw [esc_yes b hb]
        rfl
      · rw [esc_no b hb]
        rw [flag_cons, if_neg (by decide), if_neg (fun g => hb (.inr g.1)), if_neg (fun g => hb (.inl g)), if_neg (fun g => by simp at g)]
        rfl
    rw [flag_app _ _ _ _ _ _ h]
    exact flag_esc t
theorem flag_quoted (t : List UInt8) : flag (quotedL t) false false = some (false, false) := by
  show flag (34 :: (esc t ++ [34])) false false = _
  rw [flag_cons, if_neg (by decide), if_neg (by decide), if_pos rfl]
  show flag (esc t ++ [34]) true false = _
  rw [flag_app _ _ _ _ _ _ (flag_esc t)]
  rfl
/-- A piece without commas outside quotes moves the marks alone. -/
theorem cgo_flag : ∀ (x p r : List UInt8) (o : List (List UInt8)) (b : Nat) (i e i' e' : Bool), cgo (p ++ (x ++ r)) p.length = ⟨o, b, i, e⟩ → flag x i e = some (i', e') → cgo (p ++ (x ++ r)) (p.length + x.length) = ⟨o, b, i', e'⟩
  | [], p, r, o, b, i, e, i', e', h, hf => by
    simp only [flag, Option.some.injEq, Prod.mk.injEq] at hf
    rw [← hf.1, ← hf.2]
    exact h
  | c :: x, p, r, o, b, i, e, i', e', h, hf => by
    have hc : (p ++ (c :: x ++ r))[p.length]? = some c := by
      rw [List.getElem?_append_right (Nat.le_refl _), Nat.sub_self]; rfl
    have hs := cgo_at hc
    rw [h] at hs
    have e1 : p ++ (c :: x ++ r) = (p ++ [c]) ++ (x ++ r) := by simp
    have key : ∀ (i1 e1' : Bool), cgo (p ++ (c :: x ++ r)) (p.length + 1) = ⟨o, b, i1, e1'⟩ → flag x i1 e1' = some (i', e') → cgo (p ++ (c :: x ++ r)) (p.length + (c :: x).length) = ⟨o, b, i', e'⟩ := fun i1 e1' h1 h2 => by
      rw [e1] at h1 ⊢
      have := cgo_flag x (p ++ [c]) r o b i1 e1' i' e' (by rw [List.length_append]; exact h1) h2
      rw [List.length_append] at this
      rw [List.length_cons, ← Nat.add_assoc, Nat.add_right_comm]
      exact this
    rw [flag_cons] at hf
    unfold cstep at hs
    split at hf
    · rename_i g; rw [if_pos g] at hs; exact key _ _ hs hf
    · rename_i g
      rw [if_neg g] at hs
      split at hf
      · rename_i g2; rw [if_pos g2] at hs; exact key _ _ hs hf
      · rename_i g2
        rw [if_neg g2] at hs
        split at hf
        · rename_i g3; rw [if_pos g3] at hs; exact key _ _ hs hf
        · rename_i g3
          rw [if_neg g3] at hs
          split at hf
          · cases hf
          · rename_i g4
            rw [if_neg (fun h5 => g4 ⟨h5.1, h5.2.1⟩)] at hs
            have he : e = false := by simpa using g
            subst he
            exact key _ _ hs hf
/-- Cells written with commas between are told apart again. -/
theorem cgo_join : ∀ (xs : List (List UInt8)) (p : List UInt8) (o : List (List UInt8)), xs ≠ [] → (∀ x ∈ xs, flag x false false = some (false, false)) → cgo (p ++ Lib.join xs [44, 32]) p.length = ⟨o, p.length, false, false⟩ →
    (cgo (p ++ Lib.join xs [44, 32]) (p ++ Lib.join xs [44, 32]).length).out ++ [(p ++ Lib.join xs [44, 32]).drop (min (cgo (p ++ Lib.join xs [44, 32]) (p ++ Lib.join xs [44, 32]).length).beg (p ++ Lib.join xs [44, 32]).length)] = o ++ xs
  | [], _, _, h, _, _ => absurd rfl h
  | [x], p, o, _, hf, h => by
    rw [Lib.join_one] at h ⊢
    have := cgo_flag x p [] o p.length false false false false (by rw [List.append_nil]; exact h) (hf x (by simp))
    rw [List.append_nil] at this
    rw [List.length_append, this]
    show o ++ [(p ++ x).drop (min p.length (p.length + x.length))] = _
    rw [Nat.min_eq_left (by omega), List.drop_left' rfl]
  | x :: y :: r, p, o, _, hf, h => by
    rw [join_two] at h ⊢
    have h1 := cgo_flag x p ([44, 32] ++ Lib.join (y :: r) [44, 32]) o p.length false false false false h (hf x (by simp))
    generalize hj : Lib.join (y :: r) [44, 32] = J at *
    have hl : p ++ (x ++ ([44, 32] ++ J)) = (p ++ x ++ [44, 32]) ++ J := by simp
    have hc : (p ++ (x ++ ([44, 32] ++ J)))[p.length + x.length]? = some 44 := by
      rw [← List.append_assoc, List.getElem?_append_right (by simp), List.length_append, Nat.sub_self]; rfl
    have hd : (p ++ (x ++ ([44, 32] ++ J)))[p.length + x.length + 1]? = some 32 := by
      rw [← List.append_assoc, List.getElem?_append_right (by simp), List.length_append, Nat.add_sub_cancel_left]; rfl
    have h2 := cgo_at hc
    rw [h1] at h2
    have hp : Lib.hasPrefix ((p ++ (x ++ ([44, 32] ++ J))).drop (p.length + x.length)) [44, 32] = true := by
      rw [← List.append_assoc, List.drop_left' (by simp)]
      unfold Lib.hasPrefix
      rw [List.isPrefixOf_iff_prefix]
      exact List.prefix_append _ _
    unfold cstep at h2
    rw [if_neg (fun g => Bool.noConfusion g), if_neg (fun g => Bool.noConfusion g.2), if_neg (by decide), if_pos ⟨rfl, rfl, hp⟩] at h2
    have e1 : ((p ++ (x ++ ([44, 32] ++ J))).take (p.length + x.length)).drop p.length = x := by
      rw [← List.append_assoc, List.take_left' (by simp), List.drop_left' rfl]
    rw [e1] at h2
    have h3 := cgo_at hd
    rw [h2] at h3
    unfold cstep at h3
    rw [if_neg (fun g => Bool.noConfusion g), if_neg (fun g => Bool.noConfusion g.2), if_neg (by decide), if_neg (fun g => absurd g.1 (by decide))] at h3
    have h4 : cgo ((p ++ x ++ [44, 32]) ++ J) (p ++ x ++ [44, 32]).length = ⟨o ++ [x], (p ++ x ++ [44, 32]).length, false, false⟩ := by
      rw [← hl]
      simp only [List.length_append, List.length_cons, List.length_nil]
      exact h3
    rw [hl]
    rw [← hj] at h4 ⊢
    rw [cgo_join (y :: r) (p ++ x ++ [44, 32]) (o ++ [x]) (by simp) (fun z hz => hf z (by simp [hz])) h4]
    simp
theorem cells_join (xs : List (List UInt8)) (h : xs ≠ []) (hf : ∀ x ∈ xs, flag x false false = some (false, false)) : cellsL (Lib.join xs [44, 32]) = xs := by
  have := cgo_join xs [] [] h hf rfl
  simpa [cellsL] using this

/-! ### All of a list, or none -/
def allOf {α β : Type} (f : α → Option β) : List α → Option (List β)
  | [] => some []
  | x :: xs => match f x with
    | none => none
    | some y => match allOf f xs with
      | none => none
      | some ys => some (y :: ys)
theorem all_snoc {α β : Type} {f : α → Option β} : ∀ {pre : List α} {ys : List β} {x : α} {y : β}, allOf f pre = some ys → f x = some y → allOf f (pre ++ [x]) = some (ys ++ [y])
  | [], ys, x, y, h, hy => by
    simp only [allOf, Option.some.injEq] at h
    subst h
    simp [allOf, hy]
  | a :: pre, ys, x, y, h, hy => by
    unfold allOf at h
    cases ha : f a with
    | none => rw [ha] at h; cases h
    | some b =>
      rw [ha] at h
      simp only at h
      cases hp : allOf f pre with
      | none => rw [hp] at h; cases h
      | some bs =>
        rw [hp] at h
        simp only [Option.some.injEq] at h
        subst h
        rw [List.cons_append]
        unfold allOf
        rw [ha]
        simp only
        rw [all_snoc hp hy]
        rfl
theorem all_none {α β : Type} {f : α → Option β} : ∀ {pre rest : List α} {x : α}, f x = none → allOf f (pre ++ x :: rest) = none
  | [], rest, x, h => by simp [allOf, h]
  | a :: pre, rest, x, h => by
    rw [List.cons_append]
    unfold allOf
    cases f a with
    | none => rfl
    | some b => simp only; rw [all_none h]
theorem all_map {α β : Type} {f : α → Option β} {g : β → α} : ∀ (ys : List β), (∀ y ∈ ys, f (g y) = some y) → allOf f (ys.map g) = some ys
  | [], _ => rfl
  | y :: ys, h => by
    rw [List.map_cons]
    unfold allOf
    rw [h y (by simp)]
    simp only
    rw [all_map ys (fun z hz => h z (by simp [hz]))]

end Go.Proofs.YtfmjeggomphliaaGreatDoor.Tb
