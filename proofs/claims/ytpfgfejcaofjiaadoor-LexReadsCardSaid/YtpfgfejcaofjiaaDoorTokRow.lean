/- Rows of tokens: one more at the end; tokens read. -/
import Derived.Test.YtpfgfejcaofjiaaDoorLexMath2
import Derived.Test.YtpfgfejcaofjiaaDoorBox
set_option linter.unusedVariables false
set_option linter.unusedSimpArgs false
namespace Go.Proofs.YtpfgfejcaofjiaaDoor.Lx
open Go.RowKit Go Ba

/-- The cells of a token. -/
def tokCells (t : Tok) : List Value := [.int .i64 t.k, .string ⟨t.t.toArray⟩, .int .i64 t.n, .int .i64 (t.p : Int)]
def cellsT (ts : List Tok) : List Value := ts.flatMap tokCells
theorem cellsT_snoc (ts : List Tok) (t : Tok) : cellsT (ts ++ [t]) = cellsT ts ++ tokCells t := by simp [cellsT]
theorem cellsT_cons (t : Tok) (ts : List Tok) : cellsT (t :: ts) = tokCells t ++ cellsT ts := rfl
theorem cellsT_len (ts : List Tok) : (cellsT ts).length = ts.length * 4 := by
  induction ts with
  | nil => rfl
  | cons t ts ih => rw [cellsT_cons, List.length_append, ih, List.length_cons]; show 4 + _ = _; omega
theorem cellsT_at (ts : List Tok) (i : Nat) (t : Tok) (h : ts[i]? = some t) (j : Nat) (hj : j < 4) : (cellsT ts)[i * 4 + j]? = (tokCells t)[j]? := by
  induction ts generalizing i with
  | nil => simp at h
  | cons u ts ih =>
    rw [cellsT_cons]
    cases i with
    | zero =>
      simp only [List.getElem?_cons_zero, Option.some.injEq] at h
      subst h
      rw [Nat.zero_mul, Nat.zero_add, List.getElem?_append_left (by show j < 4; exact hj)]
    | succ i =>
      rw [List.getElem?_cons_succ] at h
      rw [List.getElem?_append_right (by show 4 ≤ _; omega)]
      show (cellsT ts)[(i + 1) * 4 + j - 4]? = _
      rw [show (i + 1) * 4 + j - 4 = i * 4 + j by omega]
      exact ih i h
theorem infoTok : (Tryd.prog.info? 33).map (fun i => (i.zero, i.size, i.bytes)) = some (some (.agg #[.int .i64 0, .string ⟨#[]⟩, .int .i64 0, .int .i64 0]), 4, 40) := by kernel_rfl
theorem infoRef : (Tryd.prog.info? 43).map (fun i => (i.zero, i.size, i.bytes)) = some (some (.agg #[.int .i64 0, .string ⟨#[]⟩, .int .i64 0, .int .i64 0]), 4, 40) := by kernel_rfl
/-- 'append(out, t)', out a row of tokens of the call's own. -/
theorem app_tok {P : Program} {ops : Array Oper} {rest : List Oper} {o : Oper} {a : Act} {Q : Exit → Act → World → Prop} {w : World} (hgd : o.guard = none) (s x : Operand) (t e : TypeId)
    (ho : o.op = .call { callee := .builtin .append, args := #[s, x], argTypes := #[t, t] }) {i : TypeInfo} (ht : P.underlying t = some (.slice e)) (hi : P.info? e = some i) (hz : i.zero = some (.agg #[.int .i64 0, .string ⟨#[]⟩, .int .i64 0, .int .i64 0])) (hsize : i.size = 4) (hby : i.bytes = 40)
    (base : Nat) (v : Value) (ts : List Tok) (y : Tok) (c0 c1 c2 c3 : Value) (hc : [c0, c1, c2, c3] = tokCells y) (hs : a.eval s = v) (hown : w.ownsRow base e 4 v ts.length (cellsT ts)) (hx : a.eval x = .slice (some ⟨w.heap.size, 0, none⟩) 1 1)
    (hlen : ts.length + 1 ≤ 1000000) (hbase : base ≤ w.heap.size)
    (h : ∀ v' w', w'.ownsRow base e 4 v' (ts ++ [y]).length (cellsT (ts ++ [y])) → w.grownBy w' v.ownBlock → wpList P ops Q rest (a.put o.dst v') w') :
    wpList P ops Q (o :: rest) a (w.alloc (.cells #[c0, c1, c2, c3] e)) := by
  refine wpList_append_own (w.alloc (.cells #[c0, c1, c2, c3] e)) hgd s x t ho base e i _ 4 40 ht hi hz hsize hby rfl (by decide) v ts.length (cellsT ts) hs (hown.alloc _) ⟨w.heap.size, 0, none⟩ 1 1 [c0, c1, c2, c3] hx rfl ?_ ?_ ?_ ?_ ?_ ?_
  · intro j u hj
    have e1 : (⟨w.heap.size, 0, none⟩ : Addr).add j = ⟨w.heap.size, j, none⟩ := by simp [Addr.add]; exact fun e => e.symm
    rw [e1, World.cell?_alloc_at _ _ _ _ rfl]
    simpa using hj
  · intro u hu
    rw [hc] at hu
    simp only [tokCells, List.mem_cons, List.not_mem_nil, or_false] at hu
    rcases hu with rfl | rfl | rfl | rfl <;> rfl
  · unfold maxLen; omega
  · omega
  · simp only [World.size_alloc]; omega
  · intro v' w' h1 h2 _
    refine h v' w' ?_ ⟨h2.os, h2.tape, h2.output, ?_, fun k hk hne => ?_⟩
    · rw [cellsT_snoc, List.length_append, ← hc]; exact h1
    · have := h2.size; simp only [World.size_alloc] at this; omega
    · rw [h2.block k (by simp only [World.size_alloc]; omega) hne, Below.heap_alloc w _ k hk]
/-- What is told: the tokens, in a row of the call's own; the place; the error. -/
def LexTo (x : List Tok × Nat × Int) (T : TypeId) (w : World) (e : Ending) (w' : World) : Prop :=
  ∃ v, e = .returned (.tuple #[v, .int .i64 (x.2.1 : Int), .int .i64 x.2.2]) ∧ w'.ownsRow w.heap.size T 4 v x.1.length (cellsT x.1) ∧ Below w.heap.size w w'
end Go.Proofs.YtpfgfejcaofjiaaDoor.Lx
