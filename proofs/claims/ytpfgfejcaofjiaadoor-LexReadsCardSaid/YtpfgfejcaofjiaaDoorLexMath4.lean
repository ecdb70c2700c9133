/- The plain law on tokens: those that are read, written down, are read again. No program in sight. -/
import Derived.Test.YtpfgfejcaofjiaaDoorLexMath3
import Derived.Test.YtpfgfejcaofjiaaDoorLexWalk2
set_option linter.unusedVariables false
namespace Go.Proofs.YtpfgfejcaofjiaaDoor.Lx
open Go Go.RowKit Ba

/-- A token as a text has it. -/
def TokOk (t : Tok) : Prop :=
  (t.k = 1 ∧ t.n = 0 ∧ (∃ c r, t.t = c :: r ∧ letB c = true) ∧ t.t.all wordB = true ∧ t.t.length ≤ 16) ∨
  (t.k = 2 ∧ t.t = [] ∧ 0 ≤ t.n ∧ t.n ≤ 9223372036854775807) ∨
  (t.k = 3 ∧ t.n = 0 ∧ t.t.length ≤ 64 ∧ ∀ c ∈ t.t, 32 ≤ c.toNat ∧ c.toNat ≤ 126) ∨
  (t.k = 4 ∧ t.n = 0 ∧ t.t ∈ sgL)
/-- A token's text. -/
def sh (t : Tok) : List UInt8 := if t.k = 2 then Lib.itoa t.n else if t.k = 3 then Va.quotedL t.t else t.t
theorem runN_full {f : UInt8 → Bool} {l : List UInt8} (h : l.all f = true) : runN f l = l.length := by
  induction l with
  | nil => rfl
  | cons c l ih =>
    simp only [List.all_cons, Bool.and_eq_true] at h
    rw [runN_cons, if_pos h.1, ih h.2]; rfl
theorem dec_head (u : Nat) (h : 1 ≤ u) : ∃ c r, Lib.decDigits u = c :: r ∧ c ≠ 48 := by
  induction u using Nat.strongRecOn with
  | _ u ih =>
    rw [Lib.decDigits]
    split
    · rename_i h10
      refine ⟨_, _, rfl, fun e => ?_⟩
      have := congrArg UInt8.toNat e
      rw [Nu.dig_nat u h10] at this
      have h48 : (48 : UInt8).toNat = 48 := rfl
      omega
    · obtain ⟨c, r, e, hc⟩ := ih (u / 10) (by omega) (by omega)
      exact ⟨c, r ++ [_], by rw [e]; rfl, hc⟩
theorem dec_dig (u : Nat) : (Lib.decDigits u).all digB = true := Nu.dec_all u
theorem dec_val (u : Nat) (h : u < 18446744073709551616) : decV 0 (Lib.decDigits u) = u := by
  have h1 := Nu.pu_dec u h
  rw [pu_decV _ (dec_dig u) 0 (by omega)] at h1
  split at h1
  · injection h1
  · cases h1
theorem dec_len_le : ∀ (m u : Nat), 1 ≤ m → u < 10 ^ m → (Lib.decDigits u).length ≤ m := by
  intro m
  induction m with
  | zero => intro u h; omega
  | succ m ih =>
    intro u _ h
    rw [Lib.decDigits]
    split
    · simp
    · rename_i h10
      have hm : 1 ≤ m := by
        cases m with
        | zero => simp at h; omega
        | succ m => omega
      have := ih (u / 10) hm (by rw [Nat.pow_succ] at h; omega)
      rw [List.length_append, List.length_singleton]
      omega
theorem decV_bound {l : List UInt8} (h : l.all digB = true) : decV 0 l < 10 ^ l.length := by
  have key : ∀ (l : List UInt8), l.all digB = true → ∀ a, decV a l < (a + 1) * 10 ^ l.length := by
    intro l
    induction l with
    | nil => intro _ a; rw [decV_nil]; simp
    | cons c l ih =>
      intro hl a
      simp only [List.all_cons, Bool.and_eq_true] at hl
      have hc := hl.1
      unfold digB at hc
      rw [decide_eq_true_eq] at hc
      have h1 := ih hl.2 (a * 10 + (c.toNat - 48))
      rw [decV_cons, List.length_cons, Nat.pow_succ]
      have h2 : (a * 10 + (c.toNat - 48) + 1) * 10 ^ l.length ≤ (a + 1) * 10 * 10 ^ l.length := Nat.mul_le_mul_right _ (by omega)
      calc decV (a * 10 + (c.toNat - 48)) l < (a * 10 + (c.toNat - 48) + 1) * 10 ^ l.length := h1
        _ ≤ (a + 1) * 10 * 10 ^ l.length := h2
        _ = (a + 1) * (10 ^ l.length * 10) := by rw [Nat.mul_assoc, Nat.mul_comm 10]
  have := key l h 0
  simpa using this
theorem sg_facts : ∀ x ∈ sgL, ∃ a l, x = a :: l ∧ letB a = false ∧ digB a = false ∧ a ≠ 34 ∧ tokB a = true ∧ signN (a :: l) = (a :: l).length := by
  intro x hx
  unfold sgL at hx
  simp only [List.mem_cons, List.not_mem_nil, or_false] at hx
  rcases hx with rfl | rfl | rfl | rfl | rfl | rfl | rfl | rfl | rfl | rfl | rfl | rfl | rfl | rfl | rfl | rfl | rfl | rfl
  all_goals exact ⟨_, _, rfl, by decide, by decide, by decide, by decide, by decide⟩
/-- What is read is a token, and its text is no longer than what it was read from. -/
theorem tok1_ok {c : UInt8} {r : List UInt8} {k : Int} {t : List UInt8} {n : Int} {m : Nat} (h : tok1 (c :: r) = .ok k t n m) (p : Nat) : TokOk ⟨k, t, n, p⟩ ∧ (sh ⟨k, t, n, p⟩).length ≤ m := by
  rw [tok1_cons] at h
  by_cases h1 : letB c = true
  · rw [if_pos h1] at h
    by_cases h2 : runN wordB (c :: r) > 16
    · rw [if_pos h2] at h; cases h
    rw [if_neg h2] at h
    injection h with e1 e2 e3 e4
    subst e1 e2 e3 e4
    have hl : ((c :: r).take (runN wordB (c :: r))).length = runN wordB (c :: r) := by
      rw [List.length_take]; have := runN_le wordB (c :: r); omega
    refine ⟨.inl ⟨rfl, rfl, ⟨c, r.take (runN wordB r), ?_, h1⟩, runN_all wordB (c :: r), by show ((c :: r).take _).length ≤ 16; omega⟩, by show ((c :: r).take _).length ≤ _; omega⟩
    show (c :: r).take (runN wordB (c :: r)) = _
    rw [runN_cons, if_pos (let_word h1), List.take_succ_cons]
  rw [if_neg h1] at h
  by_cases h2 : digB c = true
  · rw [if_pos h2] at h
    by_cases h3 : c = 48 ∧ runN digB (c :: r) > 1
    · rw [if_pos h3] at h; cases h
    rw [if_neg h3] at h
    by_cases h4 : decV 0 ((c :: r).take (runN digB (c :: r))) ≤ 9223372036854775807
    · rw [if_pos h4] at h
      injection h with e1 e2 e3 e4
      subst e1 e2 e3 e4
      have hl : ((c :: r).take (runN digB (c :: r))).length = runN digB (c :: r) := by
        rw [List.length_take]; have := runN_le digB (c :: r); omega
      have hb := decV_bound (runN_all digB (c :: r))
      rw [hl] at hb
      refine ⟨.inr (.inl ⟨rfl, rfl, by show (0 : Int) ≤ ((_ : Nat) : Int); omega, by show ((_ : Nat) : Int) ≤ _; omega⟩), ?_⟩
      show (if (2 : Int) = 2 then Lib.itoa _ else _).length ≤ _
      rw [if_pos rfl, Lib.itoa_nonneg]
      exact dec_len_le _ _ (runN_pos h2) hb
    · rw [if_neg h4] at h; cases h
  rw [if_neg h2] at h
  by_cases h3 : c = 34
  · rw [if_pos h3] at h
    cases hq : qTok r with
    | none => rw [hq] at h; cases h
    | some x =>
      obtain ⟨t', n'⟩ := x
      rw [hq] at h
      injection h with e1 e2 e3 e4
      subst e1 e2 e3 e4
      unfold qTok at hq
      cases hr : rdQ r with
      | none => rw [hr] at hq; cases hq
      | some y =>
        obtain ⟨t2, n2⟩ := y
        rw [hr] at hq
        simp only at hq
        by_cases h64 : t2.length ≤ 64
        · rw [if_pos h64] at hq
          simp only [Option.some.injEq, Prod.mk.injEq] at hq
          obtain ⟨rfl, rfl⟩ := hq
          obtain ⟨a1, a2, a3, a4, a5⟩ := rdQ_scan r.length r t2 n2 (Nat.le_refl _) hr
          refine ⟨.inr (.inr (.inl ⟨rfl, rfl, h64, a4⟩)), ?_⟩
          show (if (3 : Int) = 2 then _ else if (3 : Int) = 3 then Va.quotedL t2 else _).length ≤ _
          rw [if_neg (by decide), if_pos rfl]
          have hl := congrArg List.length a3
          rw [List.length_take, List.length_append, List.length_singleton] at hl
          unfold Va.quotedL
          simp only [List.length_append, List.length_cons, List.length_nil]
          omega
        · rw [if_neg h64] at hq; cases hq
  rw [if_neg h3] at h
  by_cases h4 : signN (c :: r) = 0
  · rw [if_pos h4] at h; cases h
  · rw [if_neg h4] at h
    injection h with e1 e2 e3 e4
    subst e1 e2 e3 e4
    have hf := first_sign (c :: r) (by simp)
    rw [if_neg h4] at hf
    refine ⟨.inr (.inr (.inr ⟨rfl, rfl, List.mem_of_find?_eq_some hf⟩)), ?_⟩
    show ((c :: r).take _).length ≤ _
    rw [List.length_take]; omega
/-- A token's text, in front of what ends it, is read as that token. -/
theorem tok1_sh {t : Tok} (h : TokOk t) {c : UInt8} (hc : sepB c = true) (y : List UInt8) : (∃ b r, sh t = b :: r ∧ tokB b = true) ∧ tok1 (sh t ++ c :: y) = .ok t.k t.t t.n (sh t).length := by
  obtain ⟨sw, sd⟩ := sep_word hc
  obtain ⟨k, tt, n, p⟩ := t
  rcases h with ⟨hk, hn, ⟨b, r, ht, hb⟩, hall, h16⟩ | ⟨hk, ht, h0, h1⟩ | ⟨hk, hn, h64, hp⟩ | ⟨hk, hn, hm⟩
  · simp only at hk hn ht hall h16
    subst hk hn ht
    have e : sh ⟨1, b :: r, 0, p⟩ = b :: r := rfl
    rw [e]
    have hr : runN wordB (b :: r ++ c :: y) = (b :: r).length := by rw [runN_sep sw, runN_full hall]
    refine ⟨⟨b, r, rfl, ?_⟩, ?_⟩
    · unfold letB at hb
      rw [decide_eq_true_eq] at hb
      unfold tokB wsB
      simp only [Bool.and_eq_true, Bool.not_eq_true', decide_eq_true_eq, decide_eq_false_iff_not]
      refine ⟨?_, ?_⟩
      · rintro (rfl | rfl | rfl) <;> revert hb <;> decide
      · rintro rfl; revert hb; decide
    · rw [List.cons_append] at hr ⊢
      rw [tok1_cons, if_pos hb, hr, if_neg (by omega), show b :: (r ++ c :: y) = (b :: r) ++ c :: y from rfl, List.take_left' rfl]
  · simp only at hk ht h0 h1
    subst hk ht
    obtain ⟨u, rfl⟩ : ∃ u : Nat, n = u := ⟨n.toNat, by omega⟩
    have e : sh ⟨2, [], (u : Int), p⟩ = Lib.decDigits u := by
      show (if (2 : Int) = 2 then Lib.itoa (u : Int) else _) = _
      rw [if_pos rfl, Lib.itoa_nonneg]
    rw [e]
    obtain ⟨b, r, hd, hdb⟩ := Nu.dec_cons u
    have hdb' : digB b = true := hdb
    have hall := dec_dig u
    have hv := dec_val u (by omega)
    have hz : ¬ (b = 48 ∧ (b :: r).length > 1) := by
      rintro ⟨rfl, hl⟩
      by_cases hu : 1 ≤ u
      · obtain ⟨c', r', e', hc'⟩ := dec_head u hu
        rw [hd] at e'
        injection e' with e1 e2
        exact hc' e1.symm
      · obtain rfl : u = 0 := by omega
        have : Lib.decDigits 0 = [48] := by decide +kernel
        rw [this] at hd
        injection hd with _ e2
        subst e2
        simp at hl
    rw [hd] at hall hv ⊢
    have hr : runN digB (b :: r ++ c :: y) = (b :: r).length := by rw [runN_sep sd, runN_full hall]
    have hlb : letB b = false := by
      unfold digB at hdb'
      rw [decide_eq_true_eq] at hdb'
      unfold letB
      rw [decide_eq_false_iff_not]
      omega
    refine ⟨⟨b, r, rfl, ?_⟩, ?_⟩
    · unfold digB at hdb'
      rw [decide_eq_true_eq] at hdb'
      unfold tokB wsB
      simp only [Bool.and_eq_true, Bool.not_eq_true', decide_eq_true_eq, decide_eq_false_iff_not]
      refine ⟨?_, ?_⟩
      · rintro (rfl | rfl | rfl) <;> revert hdb' <;> decide
      · rintro rfl; revert hdb'; decide
    · rw [List.cons_append] at hr ⊢
      rw [tok1_cons, if_neg (by rw [hlb]; decide), if_pos hdb', hr, if_neg hz, show b :: (r ++ c :: y) = (b :: r) ++ c :: y from rfl, List.take_left' rfl, hv, if_pos (by omega)]
  · simp only at hk hn h64 hp
    subst hk hn
    have e : sh ⟨3, tt, 0, p⟩ = Va.quotedL tt := by
      show (if (3 : Int) = 2 then _ else if (3 : Int) = 3 then Va.quotedL tt else _) = _
      rw [if_neg (by decide), if_pos rfl]
    rw [e]
    refine ⟨⟨34, Va.esc tt ++ [34], rfl, by decide⟩, ?_⟩
    have hq : qTok (Va.esc tt ++ [34] ++ c :: y) = some (tt, (Va.esc tt).length + 1 + 1) := by
      unfold qTok
      rw [List.append_assoc, show [34] ++ c :: y = 34 :: c :: y from rfl, rdQ_esc tt (c :: y) hp]
      simp only
      rw [if_pos h64]
    unfold Va.quotedL
    rw [show (34 :: Va.esc tt ++ [34]) ++ c :: y = 34 :: (Va.esc tt ++ [34] ++ c :: y) from rfl, tok1_cons, if_neg (by decide), if_neg (by decide), if_pos rfl, hq]
    simp
  · simp only at hk hn hm
    subst hk hn
    have e : sh ⟨4, tt, 0, p⟩ = tt := by
      show (if (4 : Int) = 2 then _ else if (4 : Int) = 3 then _ else tt) = _
      rw [if_neg (by decide), if_neg (by decide)]
    rw [e]
    obtain ⟨a, l, rfl, f1, f2, f3, f4, f5⟩ := sg_facts tt hm
    refine ⟨⟨a, l, rfl, f4⟩, ?_⟩
    have hs := signN_sep hc a l y
    rw [f5] at hs
    rw [List.cons_append] at hs ⊢
    rw [tok1_cons, if_neg (by rw [f1]; decide), if_neg (by rw [f2]; decide), if_neg f3, hs, if_neg (by simp), show a :: (l ++ c :: y) = (a :: l) ++ c :: y from rfl, List.take_left' rfl]
theorem lex_sh {t : Tok} (h : TokOk t) {c : UInt8} (hc : sepB c = true) (y : List UInt8) (p : Nat) : lexL (sh t ++ c :: y) p = pre [⟨t.k, t.t, t.n, p⟩] (lexL (c :: y) (p + (sh t).length)) := by
  obtain ⟨⟨b, r, e, hb⟩, ht⟩ := tok1_sh h hc y
  rw [e] at ht ⊢
  rw [List.cons_append] at ht ⊢
  rw [lex_ok hb ht (by simp), show b :: (r ++ c :: y) = (b :: r) ++ c :: y from rfl, List.drop_left' rfl]
/-- What a text is cut into are tokens, whose texts together are no longer than it. -/
theorem lex_toks : ∀ (k : Nat) (l : List UInt8) (p : Nat), l.length ≤ k → (∀ t ∈ (lexL l p).1, TokOk t) ∧ ((lexL l p).1.map fun t => (sh t).length).sum ≤ l.length ∧ (lexL l p).1.length ≤ l.length := by
  intro k
  induction k with
  | zero =>
    intro l p hl
    obtain rfl := List.eq_nil_of_length_eq_zero (Nat.le_zero.1 hl)
    rw [lex_nil]; simp
  | succ k ih =>
    intro l p hl
    match l, hl with
    | [], _ => rw [lex_nil]; simp
    | c :: r, hl =>
      simp only [List.length_cons] at hl
      rcases byte_cases c with hc | rfl | hc
      · rw [lex_ws hc]
        obtain ⟨a1, a2, a3⟩ := ih r (p + 1) (by omega)
        exact ⟨a1, by rw [List.length_cons]; omega, by rw [List.length_cons]; omega⟩
      · rw [lex_rem]
        obtain ⟨a1, a2, a3⟩ := ih (r.drop (runN notNl r)) (p + 1 + runN notNl r) (by rw [List.length_drop]; omega)
        rw [List.length_drop] at a2 a3
        exact ⟨a1, by rw [List.length_cons]; omega, by rw [List.length_cons]; omega⟩
      · cases h : tok1 (c :: r) with
        | err e => rw [lex_err hc h]; simp
        | ok kk t n m =>
          obtain ⟨m1, m2⟩ := tok1_facts.1 kk t n m h
          obtain ⟨o1, o2⟩ := tok1_ok h p
          rw [lex_ok hc h m1]
          obtain ⟨a1, a2, a3⟩ := ih ((c :: r).drop m) (p + m) (by rw [List.length_drop, List.length_cons]; omega)
          rw [List.length_drop, List.length_cons] at a2 a3
          unfold pre
          split
          · refine ⟨fun u hu => ?_, ?_, ?_⟩
            · simp only [List.singleton_append, List.mem_cons] at hu
              rcases hu with rfl | hu
              · exact o1
              · exact a1 u hu
            · simp only [List.singleton_append, List.map_cons, List.sum_cons, List.length_cons]
              omega
            · simp only [List.singleton_append, List.length_cons]
              omega
          · simp
/-- Two rows of tokens that are the same but for their places. -/
def SameT (a b : List Tok) : Prop := a.map (fun t => (t.k, t.t, t.n)) = b.map fun t => (t.k, t.t, t.n)
/-- Tokens written down, a blank behind each. -/
def textL : List Tok → List UInt8
  | [] => []
  | t :: ts => sh t ++ 32 :: textL ts
theorem textL_snoc (ts : List Tok) (t : Tok) : textL (ts ++ [t]) = textL ts ++ (sh t ++ [32]) := by
  induction ts with
  | nil => rfl
  | cons u ts ih => show sh u ++ 32 :: textL (ts ++ [t]) = (sh u ++ 32 :: textL ts) ++ _; rw [ih]; simp
theorem textL_len (ts : List Tok) : (textL ts).length = (ts.map fun t => (sh t).length).sum + ts.length := by
  induction ts with
  | nil => rfl
  | cons t ts ih =>
    show (sh t ++ 32 :: textL ts).length = _
    rw [List.length_append, List.length_cons, ih, List.map_cons, List.sum_cons, List.length_cons]; omega
theorem lex_text (ts : List Tok) (h : ∀ t ∈ ts, TokOk t) : ∀ p, ∃ ts' q, lexL (textL ts) p = (ts', q, 0) ∧ SameT ts' ts := by
  induction ts with
  | nil => intro p; exact ⟨[], p, lex_nil p, rfl⟩
  | cons t ts ih =>
    intro p
    obtain ⟨ts', q, e, hs⟩ := ih (fun u hu => h u (by simp [hu])) (p + (sh t).length + 1)
    refine ⟨⟨t.k, t.t, t.n, p⟩ :: ts', q, ?_, ?_⟩
    · show lexL (sh t ++ 32 :: textL ts) p = _
      rw [lex_sh (h t (by simp)) (by decide), lex_ws (by decide), e]; rfl
    · unfold SameT at hs ⊢
      rw [List.map_cons, List.map_cons, hs]
theorem ws_skip : ∀ (u : List UInt8), u.all wsB = true → ∀ (y : List UInt8) (p : Nat), lexL (u ++ y) p = lexL y (p + u.length)
  | [], _, y, p => rfl
  | c :: u, h, y, p => by
    simp only [List.all_cons, Bool.and_eq_true] at h
    rw [List.cons_append, lex_ws h.1, ws_skip u h.2 y (p + 1), List.length_cons, show p + 1 + u.length = p + (u.length + 1) by omega]
theorem rem_skip : ∀ (u : List UInt8), u.all wsB = true → ∀ (y : List UInt8) (q : Nat), lexL ((u ++ 10 :: y).drop (runN notNl (u ++ 10 :: y))) (q + runN notNl (u ++ 10 :: y)) = lexL y (q + u.length + 1)
  | [], _, y, q => by rw [List.nil_append, runN_cons, if_neg (by decide), List.drop_zero, Nat.add_zero, lex_ws (by decide)]; rfl
  | c :: u, h, y, q => by
    simp only [List.all_cons, Bool.and_eq_true] at h
    by_cases hc : c = 10
    · subst hc
      rw [List.cons_append, runN_cons, if_neg (by decide), List.drop_zero, Nat.add_zero, lex_ws (by decide)]
      have e : u ++ 10 :: y = (u ++ [10]) ++ y := by simp
      rw [e, ws_skip (u ++ [10]) (by rw [List.all_append, h.2]; rfl), List.length_append, List.length_singleton, List.length_cons, show q + 1 + (u.length + 1) = q + (u.length + 1) + 1 by omega]
    · have hn : notNl c = true := by unfold notNl; exact decide_eq_true hc
      rw [List.cons_append, runN_cons, if_pos hn, List.drop_succ_cons, show q + (runN notNl (u ++ 10 :: y) + 1) = q + 1 + runN notNl (u ++ 10 :: y) by omega, rem_skip u h.2 y (q + 1), List.length_cons, show q + 1 + u.length + 1 = q + (u.length + 1) + 1 by omega]
/-- What stands behind a token: blanks, a remark of blanks, an end of line. -/
def tailG (g z : List UInt8) : List UInt8 := g ++ 35 :: (g ++ z ++ [32]) ++ [10]
theorem tail_skip {g z : List UInt8} (hg : g.all wsB = true) (hz : z.all wsB = true) (y : List UInt8) (p : Nat) : lexL (tailG g z ++ y) p = lexL y (p + (tailG g z).length) := by
  unfold tailG
  have e : g ++ 35 :: (g ++ z ++ [32]) ++ [10] ++ y = g ++ (35 :: ((g ++ z ++ [32]) ++ 10 :: y)) := by simp
  have hu : (g ++ z ++ [32]).all wsB = true := by rw [List.all_append, List.all_append, hg, hz]; rfl
  rw [e, ws_skip g hg, lex_rem, rem_skip _ hu]
  congr 1
  simp only [List.length_append, List.length_cons, List.length_nil]
  omega
theorem tail_head {g z : List UInt8} (hg : g.all wsB = true) : ∃ c r, tailG g z = c :: r ∧ sepB c = true := by
  unfold tailG
  cases g with
  | nil => exact ⟨35, _, rfl, by decide⟩
  | cons c g =>
    simp only [List.all_cons, Bool.and_eq_true] at hg
    exact ⟨c, _, rfl, by unfold sepB; rw [hg.1]; rfl⟩
/-- Tokens written down, each with its tail. -/
def textG (g : List UInt8) (z : Nat → List UInt8) : Nat → List Tok → List UInt8
  | _, [] => []
  | i, t :: ts => sh t ++ (tailG g (z i) ++ textG g z (i + 1) ts)
theorem textG_snoc (g : List UInt8) (z : Nat → List UInt8) (ts : List Tok) (t : Tok) : ∀ i, textG g z i (ts ++ [t]) = textG g z i ts ++ (sh t ++ tailG g (z (i + ts.length))) := by
  induction ts with
  | nil => intro i; show sh t ++ (tailG g (z i) ++ []) = _; simp [textG]
  | cons u ts ih =>
    intro i
    show sh u ++ (tailG g (z i) ++ textG g z (i + 1) (ts ++ [t])) = (sh u ++ (tailG g (z i) ++ textG g z (i + 1) ts)) ++ _
    rw [ih, List.length_cons, show i + 1 + ts.length = i + (ts.length + 1) by omega]
    simp
theorem lex_textG {g : List UInt8} {z : Nat → List UInt8} (hg : g.all wsB = true) (hz : ∀ i, (z i).all wsB = true) (ts : List Tok) (h : ∀ t ∈ ts, TokOk t) : ∀ i p, ∃ ts' q, lexL (textG g z i ts) p = (ts', q, 0) ∧ SameT ts' ts := by
  induction ts with
  | nil => intro i p; exact ⟨[], p, lex_nil p, rfl⟩
  | cons t ts ih =>
    intro i p
    obtain ⟨ts', q, e, hs⟩ := ih (fun u hu => h u (by simp [hu])) (i + 1) (p + (sh t).length + (tailG g (z i)).length)
    obtain ⟨c, r, hc, hsep⟩ := tail_head (z := z i) hg
    refine ⟨⟨t.k, t.t, t.n, p⟩ :: ts', q, ?_, ?_⟩
    · show lexL (sh t ++ (tailG g (z i) ++ textG g z (i + 1) ts)) p = _
      have e2 : tailG g (z i) ++ textG g z (i + 1) ts = c :: (r ++ textG g z (i + 1) ts) := by rw [hc]; rfl
      rw [e2, lex_sh (h t (by simp)) hsep, ← e2, tail_skip hg (hz i), e]; rfl
    · unfold SameT at hs ⊢
      rw [List.map_cons, List.map_cons, hs]
theorem textG_len (g : List UInt8) (z : Nat → List UInt8) (hz : ∀ i, (z i).length ≤ 1) (ts : List Tok) : ∀ i, (textG g z i ts).length ≤ (ts.map fun t => (sh t).length).sum + ts.length * (2 * g.length + 4) := by
  induction ts with
  | nil => intro i; simp [textG]
  | cons t ts ih =>
    intro i
    have h1 := ih (i + 1)
    have h2 := hz i
    show (sh t ++ (tailG g (z i) ++ textG g z (i + 1) ts)).length ≤ _
    unfold tailG
    simp only [List.length_append, List.length_cons, List.length_nil, List.map_cons, List.sum_cons]
    rw [Nat.succ_mul]
    omega
end Go.Proofs.YtpfgfejcaofjiaaDoor.Lx
