/- Rows of tokens, read in later worlds. -/
import Derived.Test.YtpfgfejcaofjiaaDoorLexWalk5
set_option linter.unusedVariables false
set_option linter.unusedSimpArgs false
namespace Go.Proofs.YtpfgfejcaofjiaaDoor.Lx
open Go.RowKit Go Ba Va

/-- A slice value reads as these tokens. -/
def TokAt (W : World) (v : Value) (ts : List Tok) : Prop :=
  (v = .slice none 0 0 ∧ ts = []) ∨ ∃ g cap, v = .slice (some ⟨g, 0, none⟩) ts.length cap ∧ g < W.heap.size ∧ ts.length ≤ cap ∧ cap ≤ maxLen ∧ ∀ i t, ts[i]? = some t → ∀ j, j < 4 → W.cell? ⟨g, i * 4 + j, none⟩ = (tokCells t)[j]?
theorem TokAt.of {w : World} {base : Nat} {e : TypeId} {v : Value} {ts : List Tok} (h : w.ownsRow base e 4 v ts.length (cellsT ts)) : TokAt w v ts := by
  by_cases hn : ts = []
  · subst hn
    rcases h.2 with ⟨rfl, _⟩ | ⟨g, cap, cur, rfl, hg, hh, h3, h4, h5, h6⟩
    · exact .inl ⟨rfl, rfl⟩
    · refine .inr ⟨g, cap, rfl, (h.lt g rfl).2, h3, h4, fun i t ht => by simp at ht⟩
  · have hpos : 0 < ts.length := by cases ts with | nil => exact absurd rfl hn | cons _ _ => simp
    obtain ⟨g, cap, rfl, h1, h2, h3, h4, h5⟩ := row_shape h hpos
    refine .inr ⟨g, cap, rfl, h4, h2, h3, fun i t ht j hj => ?_⟩
    have hi : i < ts.length := (List.getElem?_eq_some_iff.1 ht).1
    rw [h5 _ (by omega)]
    exact cellsT_at ts i t ht j hj
theorem TokAt.below {W W' : World} {v : Value} {ts : List Tok} (h : TokAt W v ts) (hb : Below W.heap.size W W') : TokAt W' v ts := by
  rcases h with h | ⟨g, cap, h1, h2, h3, h4, h5⟩
  · exact .inl h
  · exact .inr ⟨g, cap, h1, Nat.lt_of_lt_of_le h2 hb.size, h3, h4, fun i t ht j hj => (hb.cell (by exact h2)).trans (h5 i t ht j hj)⟩
theorem TokAt.len {W : World} {v : Value} {ts : List Tok} (h : TokAt W v ts) : ∃ ao cap, v = .slice ao ts.length cap := by
  rcases h with ⟨h, h2⟩ | ⟨g, cap, h1, _⟩
  · subst h2; exact ⟨_, _, h⟩
  · exact ⟨_, _, h1⟩
theorem TokAt.pos {W : World} {v : Value} {ts : List Tok} (h : TokAt W v ts) (hn : ts ≠ []) : ∃ g cap, v = .slice (some ⟨g, 0, none⟩) ts.length cap ∧ g < W.heap.size ∧ ts.length ≤ cap ∧ cap ≤ maxLen ∧ ∀ i t, ts[i]? = some t → ∀ j, j < 4 → W.cell? ⟨g, i * 4 + j, none⟩ = (tokCells t)[j]? := by
  rcases h with ⟨h, h2⟩ | h
  · exact absurd h2 hn
  · exact h
/-- The four cells of a token in a row. -/
theorem tok4 {W : World} {g i : Nat} {t : Tok} (h : ∀ j, j < 4 → W.cell? ⟨g, i * 4 + j, none⟩ = (tokCells t)[j]?) : W.cell? ⟨g, i * 4, none⟩ = some (.int .i64 t.k) ∧ W.cell? ⟨g, i * 4 + 1, none⟩ = some (.string ⟨t.t.toArray⟩) ∧ W.cell? ⟨g, i * 4 + 2, none⟩ = some (.int .i64 t.n) ∧ W.cell? ⟨g, i * 4 + 3, none⟩ = some (.int .i64 (t.p : Int)) :=
  ⟨h 0 (by decide), h 1 (by decide), h 2 (by decide), h 3 (by decide)⟩
set_option maxHeartbeats 1600000 in
theorem same_yes (ts : List Tok) (v x : Value) (w : World) (hl : ts.length ≤ 20000) (hv : TokAt w v ts) (hx : TokAt w x ts) :
    Calls Tryd.prog 11 #[v, x] w fun e w' => e = .returned (.bool true) ∧ Below w.heap.size w w' := by
  by_cases hn : ts = []
  · obtain ⟨a1, c1, rfl⟩ := hv.len
    obtain ⟨a2, c2, rfl⟩ := hx.len
    subst hn
    clear hv hx
    dsimp only [List.length_nil]
    go_enter Tryd.func11, Tryd.ntmps11
    go_wp2_with fail
    refine wp_loop_rounds 1 ?_
    rw [rounds_succ]
    go_wp2_with fail
    go_ret
    exact ⟨rfl, by go_grown⟩
  · obtain ⟨g, c1, rfl, g1, g2, g3, g4⟩ := hv.pos hn
    obtain ⟨f, c2, rfl, f1, f2, f3, f4⟩ := hx.pos hn
    have G4 := Lib.hid g4
    have F4 := Lib.hid f4
    clear hv hx g4 f4 hn
    obtain ⟨n, hlen⟩ : ∃ n, ts.length = n := ⟨_, rfl⟩
    rw [hlen] at hl g2 f2 ⊢
    have HLEN := Lib.hid hlen
    clear hlen
    go_enter Tryd.func11, Tryd.ntmps11
    go_wp2_with fail
    go_loopw [14] (fun i wr => ∃ k : Nat, k ≤ n ∧ i = .int .i64 k ∧ Below w.heap.size w wr) (fun i _ => n - (intOf i).toNat)
    case atStart => exact ⟨0, Nat.zero_le _, rfl, Below.refl _ _⟩
    case round =>
      obtain ⟨k, hk, rfl, bw⟩ := hrel
      by_cases hlt : k < n
      · obtain ⟨t, ht⟩ : ∃ t, ts[k]? = some t := ⟨_, List.getElem?_eq_getElem (by rw [HLEN.out]; exact hlt)⟩
        obtain ⟨x0, x1, x2, x3⟩ := tok4 (G4.out k t ht)
        obtain ⟨y0, y1, y2, y3⟩ := tok4 (F4.out k t ht)
        obtain ⟨X, hX⟩ : ∃ X : ByteArray, (⟨t.t.toArray⟩ : ByteArray) = X := ⟨_, rfl⟩
        rw [hX] at x1 y1
        replace x0 := (bw.cell (by exact g1)).trans x0
        replace x1 := (bw.cell (by exact g1)).trans x1
        replace x2 := (bw.cell (by exact g1)).trans x2
        replace x3 := (bw.cell (by exact g1)).trans x3
        replace y0 := (bw.cell (by exact f1)).trans y0
        replace y1 := (bw.cell (by exact f1)).trans y1
        replace y2 := (bw.cell (by exact f1)).trans y2
        replace y3 := (bw.cell (by exact f1)).trans y3
        obtain ⟨tk, htk⟩ : ∃ q, t.k = q := ⟨_, rfl⟩
        obtain ⟨tn, htn⟩ : ∃ q, t.n = q := ⟨_, rfl⟩
        obtain ⟨tp, htp⟩ : ∃ q : Int, (t.p : Int) = q := ⟨_, rfl⟩
        rw [htk] at x0 y0
        rw [htn] at x2 y2
        rw [htp] at x3 y3
        have hXX : (X.toList == X.toList) = true := by simp
        have V := Box.new wr [.int .i64 tk, .string X, .int .i64 tn, .int .i64 tp] 33
        have bw1 := bw.alloc bw.size (.cells #[.int .i64 tk, .string X, .int .i64 tn, .int .i64 tp] 33)
        have hfz : f < wr.heap.size := Nat.lt_of_lt_of_le f1 bw.size
        have z0 := (World.cell?_alloc_past (.cells #[.int .i64 tk, .string X, .int .i64 tn, .int .i64 tp] 33) _ _ hfz).trans y0
        have z1 := (World.cell?_alloc_past (.cells #[.int .i64 tk, .string X, .int .i64 tn, .int .i64 tp] 33) _ _ hfz).trans y1
        have z2 := (World.cell?_alloc_past (.cells #[.int .i64 tk, .string X, .int .i64 tn, .int .i64 tp] 33) _ _ hfz).trans y2
        have z3 := (World.cell?_alloc_past (.cells #[.int .i64 tk, .string X, .int .i64 tn, .int .i64 tp] 33) _ _ hfz).trans y3
        clear ht hX htk htn htp
        go_wp2_with fail
        clear x0 x1 x2 x3 y0 y1 y2 y3
        generalize wr.alloc (.cells #[.int .i64 tk, .string X, .int .i64 tn, .int .i64 tp] 33) = W1 at *
        obtain ⟨v0, v1, v2, v3, q0, q1, q2, q3⟩ := four V
        go_quiet (fail)
        go_wp2_with fail
        go_roundw
        case rel => exact ⟨k + 1, by omega, by go_num, Below.drewN bw1 _⟩
        case measure => simp [intOf]; omega
      · go_wp2_with fail
        go_ret
        exact ⟨rfl, bw⟩
end Go.Proofs.YtpfgfejcaofjiaaDoor.Lx
