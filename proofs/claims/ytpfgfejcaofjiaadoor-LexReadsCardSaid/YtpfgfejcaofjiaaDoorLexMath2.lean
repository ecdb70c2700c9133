/- The plain law on tokens, more: lengths, errors. No program in sight. -/
import Derived.Test.YtpfgfejcaofjiaaDoorLexMath
set_option linter.unusedVariables false
namespace Go.Proofs.YtpfgfejcaofjiaaDoor.Lx
open Go Go.RowKit Ba

theorem runN_pos {f : UInt8 → Bool} {c : UInt8} {r : List UInt8} (h : f c = true) : 1 ≤ runN f (c :: r) := by rw [runN_cons, if_pos h]; omega
theorem let_word {c : UInt8} (h : letB c = true) : wordB c = true := by unfold wordB; rw [h]; rfl
theorem tok1_cons (c : UInt8) (r : List UInt8) : tok1 (c :: r) = if letB c = true then (if runN wordB (c :: r) > 16 then .err 50 else .ok 1 ((c :: r).take (runN wordB (c :: r))) 0 (runN wordB (c :: r)))
    else if digB c = true then (if c = 48 ∧ runN digB (c :: r) > 1 then .err 50 else if decV 0 ((c :: r).take (runN digB (c :: r))) ≤ 9223372036854775807 then .ok 2 [] (decV 0 ((c :: r).take (runN digB (c :: r)))) (runN digB (c :: r)) else .err 10)
    else if c = 34 then (match qTok r with | some (t, n) => .ok 3 t 0 n | none => .err 50)
    else if signN (c :: r) = 0 then .err 50 else .ok 4 ((c :: r).take (signN (c :: r))) 0 (signN (c :: r)) := rfl
theorem qTok_len {r t : List UInt8} {n : Nat} (h : qTok r = some (t, n)) : 1 ≤ n ∧ n ≤ r.length + 1 := by
  unfold qTok at h
  cases hq : rdQ r with
  | none => rw [hq] at h; cases h
  | some x =>
    obtain ⟨t', n'⟩ := x
    rw [hq] at h
    simp only at h
    split at h
    · simp only [Option.some.injEq, Prod.mk.injEq] at h
      obtain ⟨rfl, rfl⟩ := h
      have := (rdQ_scan r.length r t' n' (Nat.le_refl _) hq).2.1
      omega
    · cases h
theorem signN_len (l : List UInt8) : signN l ≤ l.length := by
  match l with
  | [] => exact Nat.le_refl _
  | [a] => show (if a ∈ sign1L then 1 else 0) ≤ 1; split <;> omega
  | a :: b :: r =>
    show (if sign2B a b = true then 2 else if a ∈ sign1L then 1 else 0) ≤ _
    simp only [List.length_cons]
    split
    · omega
    · split <;> omega
/-- A token takes at least one byte, and no more than there are; errors are two. -/
theorem tok1_facts {c : UInt8} {r : List UInt8} : (∀ k t n m, tok1 (c :: r) = .ok k t n m → 1 ≤ m ∧ m ≤ r.length + 1) ∧ (∀ e, tok1 (c :: r) = .err e → e = 50 ∨ e = 10) := by
  have hw := runN_le wordB (c :: r)
  have hd := runN_le digB (c :: r)
  have hs := signN_len (c :: r)
  simp only [List.length_cons] at hw hd hs
  rw [tok1_cons]
  by_cases h1 : letB c = true
  · have hp := runN_pos (f := wordB) (r := r) (let_word h1)
    rw [if_pos h1]
    by_cases h2 : runN wordB (c :: r) > 16
    · rw [if_pos h2]
      exact ⟨(fun k t n m h => by cases h), fun e h => by injection h with h; exact .inl h.symm⟩
    · rw [if_neg h2]
      exact ⟨(fun k t n m h => by injection h with _ _ _ h; omega), (fun e h => by cases h)⟩
  rw [if_neg h1]
  by_cases h2 : digB c = true
  · have hp := runN_pos (f := digB) (r := r) h2
    rw [if_pos h2]
    by_cases h3 : c = 48 ∧ runN digB (c :: r) > 1
    · rw [if_pos h3]
      exact ⟨(fun k t n m h => by cases h), fun e h => by injection h with h; exact .inl h.symm⟩
    rw [if_neg h3]
    by_cases h4 : decV 0 ((c :: r).take (runN digB (c :: r))) ≤ 9223372036854775807
    · rw [if_pos h4]
      exact ⟨(fun k t n m h => by injection h with _ _ _ h; omega), (fun e h => by cases h)⟩
    · rw [if_neg h4]
      exact ⟨(fun k t n m h => by cases h), fun e h => by injection h with h; exact .inr h.symm⟩
  rw [if_neg h2]
  by_cases h3 : c = 34
  · rw [if_pos h3]
    cases hq : qTok r with
    | none => exact ⟨(fun k t n m h => by cases h), fun e h => by injection h with h; exact .inl h.symm⟩
    | some x =>
      obtain ⟨t', n'⟩ := x
      have := qTok_len hq
      exact ⟨(fun k t n m h => by injection h with _ _ _ h; omega), (fun e h => by cases h)⟩
  rw [if_neg h3]
  by_cases h4 : signN (c :: r) = 0
  · rw [if_pos h4]
    exact ⟨(fun k t n m h => by cases h), fun e h => by injection h with h; exact .inl h.symm⟩
  · rw [if_neg h4]
    exact ⟨(fun k t n m h => by injection h with _ _ _ h; omega), (fun e h => by cases h)⟩
/-- What is told of a whole text. -/
def lexS (l : List UInt8) : List Tok × Nat × Int := if 16384 < l.length then ([], 0, 31) else lexL l 0
theorem lex_err_nil : ∀ (k : Nat) (l : List UInt8) (p : Nat), l.length ≤ k → (lexL l p).2.2 ≠ 0 → (lexL l p).1 = [] := by
  intro k
  induction k with
  | zero =>
    intro l p hl h
    obtain rfl := List.eq_nil_of_length_eq_zero (Nat.le_zero.1 hl)
    rw [lex_nil]
  | succ k ih =>
    intro l p hl h
    match l, hl with
    | [], _ => rw [lex_nil]
    | c :: r, hl =>
      simp only [List.length_cons] at hl
      rcases byte_cases c with hc | rfl | hc
      · rw [lex_ws hc] at h ⊢
        exact ih r (p + 1) (by omega) h
      · rw [lex_rem] at h ⊢
        exact ih _ _ (by rw [List.length_drop]; omega) h
      · cases ht : tok1 (c :: r) with
        | err e => rw [lex_err hc ht]
        | ok kk t n m =>
          have hm := (tok1_facts.1 kk t n m ht)
          rw [lex_ok hc ht hm.1] at h ⊢
          unfold pre at h ⊢
          split at h
          · exact absurd rfl h
          · rename_i hx; rw [if_neg hx]
theorem pre_lex (l : List UInt8) (p : Nat) : pre [] (lexL l p) = lexL l p := pre_nil _ (lex_err_nil l.length l p (Nat.le_refl _))
theorem lexS_err {l : List UInt8} (h : (lexS l).2.2 ≠ 0) : (lexS l).1 = [] := by
  unfold lexS at h ⊢
  split at h
  · rename_i hx; rw [if_pos hx]
  · rename_i hx; rw [if_neg hx]; exact lex_err_nil l.length l 0 (Nat.le_refl _) h
/-- Forward from a place between tokens: the gap, then a token. -/
theorem step_start (L : List UInt8) : lexL L 0 = pre [] (lexL (L.drop (gapN L)) (0 + gapN L)) := by rw [pre_lex, ← lex_gap]
theorem step_ok {L : List UInt8} {acc : List Tok} {k : Nat} {c : UInt8} {kk : Int} {t : List UInt8} {n : Int} {m : Nat} (hc : L[k]? = some c) (hb : tokB c = true) (ht : tok1 (L.drop k) = .ok kk t n m)
    (h : lexL L 0 = pre acc (lexL (L.drop k) k)) : lexL L 0 = pre (acc ++ [⟨kk, t, n, k⟩]) (lexL (L.drop (k + m + gapN (L.drop (k + m)))) (k + m + gapN (L.drop (k + m)))) := by
  obtain ⟨hk, he⟩ := List.getElem?_eq_some_iff.1 hc
  have hd : L.drop k = c :: L.drop (k + 1) := by rw [List.drop_eq_getElem_cons hk, he]
  have ht' := ht
  rw [hd] at ht'
  have hm := tok1_facts.1 kk t n m ht'
  rw [h, hd, lex_ok hb ht' hm.1, pre_pre, ← hd, List.drop_drop]
  rw [lex_gap (L.drop (k + m)), List.drop_drop]
theorem step_err {L : List UInt8} {acc : List Tok} {k : Nat} {c : UInt8} {e : Int} (hc : L[k]? = some c) (hb : tokB c = true) (ht : tok1 (L.drop k) = .err e) (h : lexL L 0 = pre acc (lexL (L.drop k) k)) : lexL L 0 = ([], k, e) ∧ e ≠ 0 := by
  obtain ⟨hk, he⟩ := List.getElem?_eq_some_iff.1 hc
  have hd : L.drop k = c :: L.drop (k + 1) := by rw [List.drop_eq_getElem_cons hk, he]
  have ht' := ht
  rw [hd] at ht'
  have hm := tok1_facts.2 e ht'
  have h0 : e ≠ 0 := by rcases hm with rfl | rfl <;> decide
  refine ⟨?_, h0⟩
  rw [h, hd, lex_err hb ht']
  unfold pre
  rw [if_neg h0]
theorem step_end {L : List UInt8} {acc : List Tok} {k : Nat} (hk : L.length ≤ k) (h : lexL L 0 = pre acc (lexL (L.drop k) k)) : lexL L 0 = (acc, k, 0) := by
  rw [h, List.drop_eq_nil_of_le hk, lex_nil]
  unfold pre
  rw [if_pos rfl, List.append_nil]
theorem tok1_bd {L : List UInt8} {k : Nat} {c : UInt8} {kk : Int} {t : List UInt8} {n : Int} {m : Nat} (hc : L[k]? = some c) (ht : tok1 (L.drop k) = .ok kk t n m) : 1 ≤ m ∧ k + m ≤ L.length := by
  obtain ⟨hk, he⟩ := List.getElem?_eq_some_iff.1 hc
  have hd : L.drop k = c :: L.drop (k + 1) := by rw [List.drop_eq_getElem_cons hk, he]
  rw [hd] at ht
  have := tok1_facts.1 kk t n m ht
  rw [List.length_drop] at this
  omega
theorem gap_bd (L : List UInt8) (k : Nat) (h : k ≤ L.length) : k + gapN (L.drop k) ≤ L.length := by
  have := gap_le (L.drop k)
  rw [List.length_drop] at this
  omega
theorem gap_tokB {L : List UInt8} {k : Nat} {c : UInt8} (h : L[k + gapN (L.drop k)]? = some c) : tokB c = true := by
  refine gap_end (l := L.drop k) ?_
  rw [List.getElem?_drop]; exact h
end Go.Proofs.YtpfgfejcaofjiaaDoor.Lx
