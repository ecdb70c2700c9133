/- Walks: a token's text; the law on tokens written down. -/
import Derived.Test.YtpfgfejcaofjiaaDoorLexMath4
import Derived.Test.YtpfgfejcaofjiaaDoorTokAt
set_option linter.unusedVariables false
set_option linter.unusedSimpArgs false
namespace Go.Proofs.YtpfgfejcaofjiaaDoor.Lx
open Go.RowKit Go Ba Va

theorem TokAt.cells {W : World} {ao : Option Addr} {n cap : Nat} {ts : List Tok} {i : Nat} {t : Tok} (h : TokAt W (.slice ao n cap) ts) (ht : ts[i]? = some t) :
    ∃ g, ao = some ⟨g, 0, none⟩ ∧ g < W.heap.size ∧ W.cell? ⟨g, i * 4, none⟩ = some (.int .i64 t.k) ∧ W.cell? ⟨g, i * 4 + 1, none⟩ = some (.string ⟨t.t.toArray⟩) ∧ W.cell? ⟨g, i * 4 + 2, none⟩ = some (.int .i64 t.n) ∧ W.cell? ⟨g, i * 4 + 3, none⟩ = some (.int .i64 (t.p : Int)) := by
  obtain ⟨g, c, e, h1, h2, h3, h4⟩ := h.pos (by rintro rfl; simp at ht)
  injection e with e1 e2 e3
  exact ⟨g, e1, h1, tok4 (h4 i t ht)⟩
set_option maxHeartbeats 800000 in
theorem tokShow_is (t : Tok) (ht : TokOk t) (w : World) (hE : Va.Env w) :
    Calls Tryd.prog 12 #[.agg #[.int .i64 t.k, .string ⟨t.t.toArray⟩, .int .i64 t.n, .int .i64 (t.p : Int)]] w fun e w' => e = .returned (.string ⟨(sh t).toArray⟩) ∧ Below w.heap.size w w' := by
  have HE := Lib.hid hE
  clear hE
  obtain ⟨k, tt, n, p⟩ := t
  rcases ht with ⟨hk, hn, h3, hall, h16⟩ | ⟨hk, ht, h0, h1⟩ | ⟨hk, hn, h64, hp⟩ | ⟨hk, hn, hm⟩
  · simp only at hk hn
    subst hk hn
    have e : sh ⟨1, tt, 0, p⟩ = tt := rfl
    rw [e]
    clear h3 hall h16 e
    obtain ⟨X, hX⟩ : ∃ X : ByteArray, (⟨tt.toArray⟩ : ByteArray) = X := ⟨_, rfl⟩
    rw [hX]
    clear hX
    go_enter Tryd.func12, Tryd.ntmps12
    go_wp2_with fail
    go_ret
    exact ⟨rfl, by go_grown⟩
  · simp only at hk ht h0 h1
    subst hk ht
    have e : sh ⟨2, [], n, p⟩ = Lib.itoa n := by
      show (if (2 : Int) = 2 then Lib.itoa n else _) = _
      rw [if_pos rfl]
    rw [e]
    clear e
    go_enter Tryd.func12, Tryd.ntmps12
    go_wp2_with fail
    refine (itoa_is n (by omega) h1 _ (Va.Env.below HE.out (by go_grown))).mono ?_
    rintro e w1 ⟨rfl, hb⟩
    have bw := two (w := w) (by go_grown) hb
    clear hb
    go_wp2_with fail
    go_ret
    exact ⟨rfl, bw⟩
  · simp only at hk hn h64 hp
    subst hk hn
    have e : sh ⟨3, tt, 0, p⟩ = quotedL tt := by
      show (if (3 : Int) = 2 then _ else if (3 : Int) = 3 then quotedL tt else _) = _
      rw [if_neg (by decide), if_pos rfl]
    rw [e]
    have hr := plain_of hp h64
    have hsl : showL 2 0 ⟨tt.toArray⟩ = quotedL tt := by
      unfold showL; rw [if_pos hr, if_neg (by decide), if_neg (by decide)]
    have hsz : (⟨tt.toArray⟩ : ByteArray).size ≤ 9223372036854775807 := by rw [str_size]; omega
    rw [← hsl]
    obtain ⟨X, hX⟩ : ∃ X : ByteArray, (⟨tt.toArray⟩ : ByteArray) = X := ⟨_, rfl⟩
    rw [hX] at hsz ⊢
    clear hX e hr hsl hp h64
    go_enter Tryd.func12, Tryd.ntmps12
    go_wp2_with fail
    refine (text_any X _).mono ?_
    rintro e w1 ⟨rfl, hb⟩
    have bw := two (w := w) (by go_grown) hb
    clear hb
    go_wp2_with fail
    refine (show_any 2 0 X _ hsz (by omega) (by omega) (Va.Env.below HE.out bw)).mono ?_
    rintro e w2 ⟨rfl, hb⟩
    replace bw := two bw hb
    clear hb
    go_wp2_with fail
    go_ret
    exact ⟨rfl, bw⟩
  · simp only at hk hn
    subst hk hn
    have e : sh ⟨4, tt, 0, p⟩ = tt := by
      show (if (4 : Int) = 2 then _ else if (4 : Int) = 3 then _ else tt) = _
      rw [if_neg (by decide), if_neg (by decide)]
    rw [e]
    clear hm e
    obtain ⟨X, hX⟩ : ∃ X : ByteArray, (⟨tt.toArray⟩ : ByteArray) = X := ⟨_, rfl⟩
    rw [hX]
    clear hX
    go_enter Tryd.func12, Tryd.ntmps12
    go_wp2_with fail
    go_ret
    exact ⟨rfl, by go_grown⟩
theorem textL_app (a b : List Tok) : textL (a ++ b) = textL a ++ textL b := by
  induction a with
  | nil => rfl
  | cons t a ih => show sh t ++ 32 :: textL (a ++ b) = (sh t ++ 32 :: textL a) ++ textL b; rw [ih]; simp
theorem textL_take (ts : List Tok) (k : Nat) : (textL (ts.take k)).length ≤ (textL ts).length := by
  have e := textL_app (ts.take k) (ts.drop k)
  rw [List.take_append_drop] at e
  rw [e, List.length_append]; omega
theorem textL_step {ts : List Tok} {k : Nat} {t : Tok} (h : ts[k]? = some t) : textL (ts.take (k + 1)) = textL (ts.take k) ++ (sh t ++ [32]) := by
  rw [take_one ts k t h, textL_snoc]
theorem SameT.len {a b : List Tok} (h : SameT a b) : a.length = b.length := by
  have := congrArg List.length h
  simpa using this
theorem SameT.at {a b : List Tok} (h : SameT a b) {i : Nat} {t u : Tok} (ha : a[i]? = some t) (hb : b[i]? = some u) : t.k = u.k ∧ t.t = u.t ∧ t.n = u.n := by
  have := congrArg (·[i]?) h
  simp only [List.getElem?_map, ha, hb, Option.map_some, Option.some.injEq, Prod.mk.injEq] at this
  exact this
/-- Facts on what is read. -/
theorem lexS_ok {l : List UInt8} (h : (lexS l).2.2 = 0) : l.length ≤ 16384 ∧ lexS l = lexL l 0 ∧ (∀ t ∈ (lexS l).1, TokOk t) ∧ ((lexS l).1.map fun t => (sh t).length).sum ≤ l.length ∧ (lexS l).1.length ≤ l.length := by
  unfold lexS at h ⊢
  by_cases h1 : 16384 < l.length
  · rw [if_pos h1] at h; cases h
  · rw [if_neg h1]
    obtain ⟨a, b, c⟩ := lex_toks l.length l 0 (Nat.le_refl _)
    exact ⟨by omega, rfl, a, b, c⟩
end Go.Proofs.YtpfgfejcaofjiaaDoor.Lx
