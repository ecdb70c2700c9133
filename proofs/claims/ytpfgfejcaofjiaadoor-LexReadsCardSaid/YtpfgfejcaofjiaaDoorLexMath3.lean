/- The plain law on tokens: texts put together, tokens written down and read again. No program in sight. -/
import Derived.Test.YtpfgfejcaofjiaaDoorLexMath2
set_option linter.unusedVariables false
namespace Go.Proofs.YtpfgfejcaofjiaaDoor.Lx
open Go Go.RowKit Ba

/-! ### What a byte that ends a token leaves of it -/
/-- A byte behind which every token ends: a blank, a tab, an end of line, the beginning of a remark. -/
def sepB (c : UInt8) : Bool := wsB c || decide (c = 35)
theorem sep_cases {c : UInt8} (h : sepB c = true) : c = 32 ∨ c = 9 ∨ c = 10 ∨ c = 35 := by
  unfold sepB wsB at h
  simp only [Bool.or_eq_true, decide_eq_true_eq] at h
  rcases h with (h | h | h) | h
  · exact .inl h
  · exact .inr (.inl h)
  · exact .inr (.inr (.inl h))
  · exact .inr (.inr (.inr h))
theorem sep_word {c : UInt8} (h : sepB c = true) : wordB c = false ∧ digB c = false := by
  rcases sep_cases h with rfl | rfl | rfl | rfl <;> decide
theorem runN_sep {f : UInt8 → Bool} {c : UInt8} (h : f c = false) (l y : List UInt8) : runN f (l ++ c :: y) = runN f l := by
  induction l with
  | nil => rw [List.nil_append, runN_cons, if_neg (by rw [h]; decide)]; rfl
  | cons d l ih => rw [List.cons_append, runN_cons, runN_cons, ih]
theorem take_app {l y : List UInt8} {n : Nat} (h : n ≤ l.length) : (l ++ y).take n = l.take n := by
  rw [List.take_append_of_le_length h]
theorem signN_sep {c : UInt8} (h : sepB c = true) (a : UInt8) (l y : List UInt8) : signN (a :: l ++ c :: y) = signN (a :: l) := by
  cases l with
  | nil =>
    show (if sign2B a c = true then 2 else if a ∈ sign1L then 1 else 0) = (if a ∈ sign1L then 1 else 0)
    have : sign2B a c = false := by
      unfold sign2B
      rw [decide_eq_false_iff_not]
      rcases sep_cases h with rfl | rfl | rfl | rfl <;> rintro (⟨_, e⟩ | ⟨_, e⟩ | ⟨_, e⟩ | ⟨_, e⟩) <;> revert e <;> decide
    rw [this, if_neg (by decide)]
  | cons b l => rfl
/-- Behind a text without the end of a line, an end of line changes nothing that is between quotes. -/
theorem rdQ_nl : ∀ (k : Nat) (l y : List UInt8), l.length ≤ k → rdQ (l ++ 10 :: y) = rdQ l := by
  intro k
  induction k with
  | zero =>
    intro l y hl
    obtain rfl := List.eq_nil_of_length_eq_zero (Nat.le_zero.1 hl)
    rw [List.nil_append, rdQ_cons, if_neg (by decide), if_pos (by decide), rdQ_nil]
  | succ k ih =>
    intro l y hl
    match l, hl with
    | [], _ => rw [List.nil_append, rdQ_cons, if_neg (by decide), if_pos (by decide), rdQ_nil]
    | c :: r, hl =>
      simp only [List.length_cons] at hl
      rw [List.cons_append, rdQ_cons, rdQ_cons]
      by_cases h1 : c = 34
      · rw [if_pos h1, if_pos h1]
      rw [if_neg h1, if_neg h1]
      by_cases h2 : c.toNat < 32 ∨ 126 < c.toNat
      · rw [if_pos h2, if_pos h2]
      rw [if_neg h2, if_neg h2]
      by_cases h3 : c = 92
      · rw [if_pos h3, if_pos h3]
        match r, hl with
        | [], _ => rfl
        | d :: r', hl =>
          simp only [List.length_cons] at hl
          rw [List.cons_append]
          simp only
          rw [ih r' y (by omega)]
      · rw [if_neg h3, if_neg h3, ih r y (by omega)]
theorem qTok_nl (l y : List UInt8) : qTok (l ++ 10 :: y) = qTok l := by
  unfold qTok
  rw [rdQ_nl l.length l y (Nat.le_refl _)]
/-- A token is the same with an end of line, and whatever, behind the text. -/
theorem tok1_nl (c : UInt8) (r y : List UInt8) : tok1 (c :: r ++ 10 :: y) = tok1 (c :: r) := by
  have h10 : sepB 10 = true := by decide
  obtain ⟨w, d⟩ := sep_word h10
  have e1 := runN_sep w (c :: r) y
  have e2 := runN_sep d (c :: r) y
  have e3 := signN_sep h10 c r y
  have l1 := runN_le wordB (c :: r)
  have l2 := runN_le digB (c :: r)
  have l3 := signN_len (c :: r)
  have q := qTok_nl r y
  rw [List.cons_append] at e1 e2 e3 ⊢
  rw [tok1_cons, tok1_cons, e1, e2, e3, q]
  rw [show c :: (r ++ 10 :: y) = (c :: r) ++ 10 :: y from rfl, take_app l1, take_app l2, take_app l3]
/-- A text, an end of line, and another text. -/
theorem lex_parts : ∀ (k : Nat) (l y : List UInt8) (p : Nat), l.length ≤ k → lexL (l ++ 10 :: y) p = if (lexL l p).2.2 = 0 then pre (lexL l p).1 (lexL y (p + l.length + 1)) else lexL l p := by
  intro k
  induction k with
  | zero =>
    intro l y p hl
    obtain rfl := List.eq_nil_of_length_eq_zero (Nat.le_zero.1 hl)
    rw [List.nil_append, lex_ws (by decide), lex_nil, if_pos rfl, pre_lex]; rfl
  | succ k ih =>
    intro l y p hl
    match l, hl with
    | [], _ => rw [List.nil_append, lex_ws (by decide), lex_nil, if_pos rfl, pre_lex]; rfl
    | c :: r, hl =>
      simp only [List.length_cons] at hl
      rcases byte_cases c with hc | rfl | hc
      · rw [List.cons_append, lex_ws hc, lex_ws hc, ih r y (p + 1) (by omega), List.length_cons, show p + 1 + r.length + 1 = p + (r.length + 1) + 1 by omega]
      · have hrl := runN_le notNl r
        rw [List.cons_append, lex_rem, lex_rem, runN_sep (by decide), List.drop_append_of_le_length hrl, ih _ y _ (by rw [List.length_drop]; omega), List.length_drop, List.length_cons,
          show p + 1 + runN notNl r + (r.length - runN notNl r) + 1 = p + (r.length + 1) + 1 by omega]
      · have ht := tok1_nl c r y
        cases h : tok1 (c :: r) with
        | err e =>
          rw [h] at ht
          have hm := tok1_facts.2 e h
          have h0 : e ≠ 0 := by rcases hm with rfl | rfl <;> decide
          rw [List.cons_append] at ht ⊢
          rw [lex_err hc ht, lex_err hc h, if_neg h0]
        | ok kk t n m =>
          rw [h] at ht
          obtain ⟨m1, m2⟩ := tok1_facts.1 kk t n m h
          rw [List.cons_append] at ht ⊢
          rw [lex_ok hc ht m1, lex_ok hc h m1]
          rw [show c :: (r ++ 10 :: y) = (c :: r) ++ 10 :: y from rfl, List.drop_append_of_le_length (by rw [List.length_cons]; omega)]
          rw [ih _ y _ (by rw [List.length_drop, List.length_cons]; omega), List.length_drop, List.length_cons, show p + m + (r.length + 1 - m) + 1 = p + (r.length + 1) + 1 by omega]
          obtain ⟨x, hx⟩ : ∃ x, lexL ((c :: r).drop m) (p + m) = x := ⟨_, rfl⟩
          rw [hx]
          by_cases h0 : x.2.2 = 0
          · rw [if_pos h0, pre_pre]
            unfold pre
            rw [if_pos h0]
            simp
          · rw [if_neg h0]
            unfold pre
            rw [if_neg h0]
            simp [h0]
/-! ### Places -/
def shT (d : Nat) (t : Tok) : Tok := ⟨t.k, t.t, t.n, t.p + d⟩
theorem lex_shift (d : Nat) : ∀ (k : Nat) (l : List UInt8) (p : Nat), l.length ≤ k → lexL l (p + d) = ((lexL l p).1.map (shT d), (lexL l p).2.1 + d, (lexL l p).2.2) := by
  intro k
  induction k with
  | zero =>
    intro l p hl
    obtain rfl := List.eq_nil_of_length_eq_zero (Nat.le_zero.1 hl)
    rw [lex_nil, lex_nil]; rfl
  | succ k ih =>
    intro l p hl
    match l, hl with
    | [], _ => rw [lex_nil, lex_nil]; rfl
    | c :: r, hl =>
      simp only [List.length_cons] at hl
      rcases byte_cases c with hc | rfl | hc
      · rw [lex_ws hc, lex_ws hc, show p + d + 1 = p + 1 + d by omega, ih r (p + 1) (by omega)]
      · rw [lex_rem, lex_rem, show p + d + 1 + runN notNl r = p + 1 + runN notNl r + d by omega, ih _ _ (by rw [List.length_drop]; omega)]
      · cases h : tok1 (c :: r) with
        | err e => rw [lex_err hc h, lex_err hc h]; rfl
        | ok kk t n m =>
          obtain ⟨m1, m2⟩ := tok1_facts.1 kk t n m h
          rw [lex_ok hc h m1, lex_ok hc h m1, show p + d + m = p + m + d by omega, ih _ (p + m) (by rw [List.length_drop, List.length_cons]; omega)]
          obtain ⟨x, hx⟩ : ∃ x, lexL ((c :: r).drop m) (p + m) = x := ⟨_, rfl⟩
          rw [hx]
          unfold pre
          by_cases h0 : x.2.2 = 0
          · rw [if_pos h0, if_pos h0, List.map_append, h0]; rfl
          · rw [if_neg h0, if_neg h0]; rfl
end Go.Proofs.YtpfgfejcaofjiaaDoor.Lx
