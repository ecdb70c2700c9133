/- A range over a function: what draws its order within a round; the law of the loop for an iterator that keeps a variable of its own in a block that lay ahead of the loop. -/
import Derived.Test.YtfmjeggomphliaaGreatDoorBase
import Derived.RangeFuncNested
import Derived.RangeFuncBound
import Derived.RangeFuncCalls
import Derived.RangeFuncLeaves
import Derived.Deep.RegionHeld
import Derived.OrdersIn
set_option linter.unusedVariables false
set_option linter.unusedSimpArgs false
namespace Go.Proofs.YtfmjeggomphliaaGreatDoor.Rf
open Go.RowKit Go

/-! ### A drawn region within a round -/
theorem rows_in {n l : Nat} {P : Program} {row : String} {args : Array Value} {w : World} {R : Value → World → Prop} (h : Rows P row args w R) : RowsIn (Fence.wide.inRound l) n P row args w R :=
  fun c cs _ => let ⟨v, w', r, s⟩ := h c cs; ⟨v, w', r, stepsIn_wide.2 s⟩
theorem no_depth (l : Nat) {p : Prop} : (Fence.wide.inRound l).depth.isSome = true → p := fun h => by simp [Fence.wide, Fence.inRound] at h
theorem oper_in {l n : Nat} {P : Program} {o : Oper} {a : Act} {w : World} {next : Act → World → Prop} {Q : Exit → Act → World → Prop} (hd : ∀ c, o.op ≠ .defer c) (h : o.wp P a w next Q) : o.wpIn (Fence.wide.inRound l) n P a w next Q := by
  refine ⟨fun _ _ => trivial, ?_⟩
  rw [Fence.inRound_round, Oper.semAt_some l _ _ hd]
  have h' : o.upon P a next Q ((execOp a.eval o).run P w) := h
  generalize (execOp a.eval o).run P w = r at h'
  cases r with
  | ok x w' =>
    cases x with
    | value v => exact h'
    | skip => exact h'
    | defer d => exact h'
    | enter f args => exact ⟨no_depth l, CallsIn.inRound l (callsIn_wide.2 h')⟩
    | row row args => exact ⟨no_depth l, rows_in h'⟩
    | _ => exact h'.elim
  | halt x w' =>
    cases x with
    | panic v => exact h'
    | _ => exact h'.elim
theorem op_in {l n : Nat} {P : Program} {ops : Array Oper} {Q : Exit → Act → World → Prop} (hd : ∀ (i : Nat) (o : Oper), ops[i]? = some o → ∀ c, o.op ≠ .defer c) (hq : ¬ LetsOut Q) {i : Nat} {K : Act → World → Prop} {a : Act} {w : World} (h : wpOp P ops Q i K a w) : wpOpIn (Fence.wide.inRound l) n P ops Q i K a w := by
  unfold wpOp at h
  unfold wpOpIn
  cases ho : ops[i]? with
  | none => rw [ho] at h; exact h
  | some o =>
    rw [ho] at h
    simp only at h ⊢
    by_cases hw : Region.wanted o (yielded ops a.tmps) = true
    · rw [if_pos hw] at h ⊢
      rcases h with h | ⟨_, h⟩
      · exact oper_in (hd i o ho) h
      · exact absurd h hq
    · rw [if_neg hw] at h ⊢
      exact ⟨fun _ _ => trivial, h⟩
theorem any_in {l n : Nat} {P : Program} {md : Region.Mode} {ops : Array Oper} {Q : Exit → Act → World → Prop} (hd : ∀ (i : Nat) (o : Oper), ops[i]? = some o → ∀ c, o.op ≠ .defer c) (hq : ¬ LetsOut Q) : ∀ (fuel : Nat) (listed : Array Bool) (a : Act) (w : World), wpAny P md ops Q fuel listed a w → wpAnyIn (Fence.wide.inRound l) n P md ops Q fuel listed a w
  | 0, _, _, _, h => h
  | fuel + 1, _, _, _, h => ⟨h.1, fun i hi => op_in hd hq (wpOp_mono (fun a' w' h' => any_in hd hq fuel _ a' w' h') (h.2 i hi))⟩
/-- A region that draws its order, within a round: as outside. -/
theorem region_in {l n id : Nat} {P : Program} {ops : Array Oper} {Q : Exit → Act → World → Prop} {S : World → Prop} {a : Act} {w : World} (hd : ∀ (i : Nat) (o : Oper), ops[i]? = some o → ∀ c, o.op ≠ .defer c) (hq : ¬ LetsOut Q) (hm : P.follows .mixedOrders = true) (hS : S w.drew)
    (h : S w.drew → wpAnyH P .any ops Q S ops.size (Array.replicate ops.size false) a w.drew) : (Code.region id ops true).wpIn (Fence.wide.inRound l) n P Q a w :=
  wpIn_region_any hm (any_in hd hq _ _ _ _ (wpAny_of_held _ _ _ _ (h hS)))

/-! ### The loop -/
/-- What the loop's owner knows bears a turn of the iterator's block. -/
def Bears {α : Type} (Bs : Nat) (J : List α → World → Prop) : Prop := ∀ s W W', J s W → W.grownBy W' (some Bs) → J s W'
/-- These blocks are as they were. -/
def Same (Kp : Nat → Prop) (W W' : World) : Prop := ∀ k, Kp k → W'.heap[k]? = W.heap[k]?
theorem Same.trans {Kp : Nat → Prop} {W W1 W2 : World} (h : Same Kp W W1) (h' : Same Kp W1 W2) : Same Kp W W2 := fun k a => (h' k a).trans (h k a)
/-- An iterator whose variable lies in block Bs; it leans on the blocks Kp, which are as Init says when it is called. -/
def SeqC {α : Type} (n : Nat) (P : Program) (gf : Nat) (lb : Array Value) (encs : α → Array Value) (S Sp : List α → Prop) (Bs : Nat) (Kp : Nat → Prop) (N : Nat) (Init : World → Prop) : Prop :=
  ∀ (l : Nat) (J Jx : List α → World → Prop) (W : World), Init W → Bears Bs J → Bears Bs Jx →
    (∀ pre x W1, J pre W1 → pre.length < N → YieldAt Fence.wide (n - 1) P l (encs x) W1 fun e W' => (e = .returned (.bool true) ∧ J (pre ++ [x]) W' ∧ Same Kp W1 W') ∨ (e = .returned (.bool false) ∧ Jx (pre ++ [x]) W')) →
    J [] W → CallsIn Fence.wide n P gf (#[.func (.yield l) #[] #[]] ++ lb) W fun e W' => (∃ v, e = .returned v) ∧ ((∃ xs, S xs ∧ J xs W') ∨ (∃ pre, Sp pre ∧ Jx pre W'))
/-- What a round keeps: the iterator's blocks, and what is no cells from B on. -/
structure Keeps (B : Nat) (Kp : Nat → Prop) (W W' : World) : Prop where
  size : W.heap.size ≤ W'.heap.size
  own : Same Kp W W'
  oth : ∀ (k : Nat) (o : Obj), B ≤ k → W.heap[k]? = some o → o.isCells = false → W'.heap[k]? = some o
theorem Keeps.refl (B : Nat) (Kp : Nat → Prop) (W : World) : Keeps B Kp W W := ⟨Nat.le_refl _, fun _ _ => rfl, fun _ _ _ h _ => h⟩
theorem Keeps.trans {B : Nat} {Kp : Nat → Prop} {W W1 W2 : World} (h : Keeps B Kp W W1) (h' : Keeps B Kp W1 W2) : Keeps B Kp W W2 := ⟨Nat.le_trans h.size h'.size, h.own.trans h'.own, fun k o hB hk ho => h'.oth k o hB (h.oth k o hB hk ho) ho⟩
theorem Keeps.grown {B : Nat} {Kp : Nat → Prop} {W W' : World} {row : Option Nat} (hg : W.grownBy W' row) (hs : ∀ k, Kp k → k < W.heap.size) (hne : ∀ r, row = some r → ¬ Kp r) (hc : ∀ r o, row = some r → W.heap[r]? = some o → o.isCells = true) : Keeps B Kp W W' :=
  ⟨hg.size, fun k a => hg.block k (hs k a) (fun e => hne k e.symm a), fun k o hB hk ho => (hg.block k (Array.getElem?_eq_some_iff.1 hk).1 (by
    intro e
    rw [hc k o e.symm hk] at ho; cases ho)).trans hk⟩
theorem Keeps.below {B : Nat} {Kp : Nat → Prop} {W W' : World} (hb : Below W.heap.size W W') (hs : ∀ k, Kp k → k < W.heap.size) : Keeps B Kp W W' :=
  ⟨hb.size, fun k a => hb.block k (hs k a), fun k o hB hk ho => (hb.block k (Array.getElem?_eq_some_iff.1 hk).1).trans hk⟩
theorem Keeps.put {B : Nat} {Kp : Nat → Prop} (W : World) {C : Nat} {i : Nat} {v : Value} (hne : ¬ Kp C) (hc : ∀ o, W.heap[C]? = some o → o.isCells = true) : Keeps B Kp W (W.setCell ⟨C, i, none⟩ v) :=
  ⟨by rw [World.size_setCell]; exact Nat.le_refl _, fun k a => Below.heap_setCell _ _ _ _ (fun e => hne (by rw [← show k = C from e]; exact a)), fun k o hB hk ho => (Below.heap_setCell _ _ _ _ (by
    intro e
    have e' : k = C := e
    subst e'
    rw [hc o hk] at ho; cases ho)).trans hk⟩
/-- How a round's body may be left. -/
def Left {α : Type} (B : Nat) (Kp : Nat → Prop) (I Ix : List α → World → Prop) (xs : List α) (W : World) : Exit → Act → World → Prop
  | .normal, _, W' => Keeps B Kp W W' ∧ I xs W'
  | .ret, _, W' => Keeps B Kp W W' ∧ Ix xs W'
  | _, _, _ => False

/-- The law of the loop. -/
theorem wpIn_range {α : Type} {n : Nat} {P : Program} {g : Operand} {ps : Array Tmp} {assign body : Code} {Q : Exit → Act → World → Prop} {a : Act} {w : World}
    {gf : Nat} {lb : Array Value} (hg : a.eval g = .func (.func gf) #[] lb) (eg : ∀ args w, (callFunc gf args).run P w = .ok (.enter gf args) w)
    {encs : α → Array Value} {S Sp : List α → Prop} {Bs : Nat} {Kp : Nat → Prop} {N : Nat} {Init : World → Prop} (hseq : SeqC (n - 1) P gf lb encs S Sp Bs Kp N Init) (h0s : ∀ W, Same Kp w W → Init W) (hBs : Bs < w.heap.size) (hKp : ∀ k, Kp k → k < w.heap.size) (hps : ∀ x, (encs x).size = ps.size)
    (I Ix : List α → World → Prop)
    (hI : ∀ s W W' r, I s W → W.grownBy W' (some r) → (r = Bs ∨ (w.heap.size ≤ r ∧ ∃ o, W.heap[r]? = some o ∧ o.isCells = false)) → I s W')
    (hIx : ∀ s W W' r, Ix s W → W.grownBy W' (some r) → (r = Bs ∨ (w.heap.size ≤ r ∧ ∃ o, W.heap[r]? = some o ∧ o.isCells = false)) → Ix s W')
    (h0 : I [] w) (a₁ : α → Act)
    (hassign : ∀ (l : Nat) (x : α) (W : World) (K : Act → World → Prop), K (a₁ x) W →
      assign.wpIn (Fence.wide.inRound l) (n - 1 - 1) P (Exit.then K (fun _ _ _ => False)) { tmps := (ps.zip (encs x)).foldl (fun t (p, v) => t.setIfInBounds p v) a.tmps, defers := [] } W)
    (hbody : ∀ (l : Nat) (pre : List α) (x : α) (W : World), I pre W → w.heap.size ≤ W.heap.size → pre.length < N → body.wpIn (Fence.wide.inRound l) (n - 1 - 1) P (Left w.heap.size Kp I Ix (pre ++ [x]) W) (a₁ x) W)
    (hdone : ∀ (D : Nat) (xs : List α) (W : World), w.heap.size ≤ D → S xs → I xs W → W.heap[D]? = some (.deferred (some [])) → Q .normal { a with defers := { target := .collected D, args := #[] } :: a.defers } W)
    (hstop : ∀ (D : Nat) (pre : List α) (W : World), w.heap.size ≤ D → Sp pre → Ix pre W → W.heap[D]? = some (.deferred (some [])) → Code.ret.wpIn Fence.wide n P Q { a with defers := { target := .collected D, args := #[] } :: a.defers } W) :
    (Code.rangeFunc g ps assign body).wpIn Fence.wide n P Q a w := by
  refine wpIn_rangeFunc ?_
  intro fn hfn
  obtain ⟨rec, hrec⟩ : ∃ rec : LoopState → Option Code → Loop, rec = fun st pe => { state := st, pending := pe, fn, tmps := a.tmps, params := ps, assign, body, defers := w.heap.size } := ⟨_, rfl⟩
  obtain ⟨W1, hW1⟩ : ∃ W1, (w.alloc (.deferred (some []))).alloc (.loop (rec .ready none)) = W1 := ⟨_, rfl⟩
  have hL1 : W1.heap[w.heap.size + 1]? = some (.loop (rec .ready none)) := by
    rw [← hW1]
    have := World.alloc_heap_new (w.alloc (.deferred (some []))) (.loop (rec .ready none))
    rwa [World.size_alloc] at this
  have hD1 : W1.heap[w.heap.size]? = some (.deferred (some [])) := by
    rw [← hW1]; exact (Below.heap_alloc _ _ _ (by simp)).trans (World.alloc_heap_new w _)
  have hS1 : Init W1 := h0s W1 fun k a => by
    have := hKp k a
    rw [← hW1]; exact (Below.heap_alloc _ _ _ (by simp; omega)).trans (Below.heap_alloc _ _ _ this)
  have hI1 : I [] W1 := by
    rw [← hW1]
    exact hI _ _ _ Bs (hI _ _ _ Bs h0 (World.grownBy_alloc _ _ _) (.inl rfl)) (World.grownBy_alloc _ _ _) (.inl rfl)
  -- a turn of one of the loop's own two blocks
  have turn : ∀ {W : World} {k : Nat} {o : Obj} (o' : Obj), W.heap[k]? = some o → o.isCells = false → w.heap.size ≤ k → W.grownBy (W.putObj k o') (some k) ∧ (k = Bs ∨ (w.heap.size ≤ k ∧ ∃ o, W.heap[k]? = some o ∧ o.isCells = false)) :=
    fun o' hk ho hB => ⟨grownBy_putObj' _ _ o', .inr ⟨hB, _, hk, ho⟩⟩
  have far : ∀ {W W' : World} {k : Nat} {o : Obj}, W.heap[k]? = some o → W.grownBy W' (some Bs) → w.heap.size ≤ k → W'.heap[k]? = some o := fun hk hg hB =>
    (hg.block _ (Array.getElem?_eq_some_iff.1 hk).1 (by intro e; have := Option.some.inj e; omega)).trans hk
  refine ⟨w.heap.size + 1, [{ target := .collected w.heap.size, args := #[] }], W1, { target := .fn (.func gf) lb, args := #[.func (.yield (w.heap.size + 1)) #[] #[]] }, W1, gf,
    #[.func (.yield (w.heap.size + 1)) #[] #[]] ++ lb, W1, ?_, ?_, fun _ _ => trivial, ?_, fun h => by simp [Fence.wide] at h, ?_⟩
  · rw [← hW1, hrec]; exact run_enterLoop_outer _ _ _ _ _
  · simp only [resolve, hg]
    simp [go_sem]
  · simp [invoke, go_sem, eg]
  · refine (hseq (w.heap.size + 1)
      (fun pre W => I pre W ∧ W.heap[w.heap.size + 1]? = some (.loop (rec .ready none)) ∧ W.heap[w.heap.size]? = some (.deferred (some [])))
      (fun pre W => Ix pre W ∧ W.heap[w.heap.size + 1]? = some (.loop (rec .done (some .ret))) ∧ W.heap[w.heap.size]? = some (.deferred (some [])))
      W1 hS1
      (fun s A B hs hg' => ⟨hI s A B Bs hs.1 hg' (.inl rfl), far hs.2.1 hg' (by omega), far hs.2.2 hg' (by omega)⟩)
      (fun s A B hs hg' => ⟨hIx s A B Bs hs.1 hg' (.inl rfl), far hs.2.1 hg' (by omega), far hs.2.2 hg' (by omega)⟩)
      ?_ ⟨hI1, hL1, hD1⟩).mono ?_
    · -- one round
      rintro pre x W ⟨hi, hl, hk⟩ hN
      have hlt : w.heap.size + 1 < W.heap.size := (Array.getElem?_eq_some_iff.1 hl).1
      have hy := run_yield (P := P) (args := encs x) hl (by rw [hrec]; exact hps x)
      rw [hrec] at hy
      refine ⟨fn, _, assign, body, hy, roundIn_of_wpIn trivial (hassign _ x W _ ⟨_, run_beginRound hl (by rw [hrec]), ?_⟩)⟩
      obtain ⟨Wb, hWb⟩ : ∃ Wb, W.putObj (w.heap.size + 1) (.loop { rec .ready none with state := .busy }) = Wb := ⟨_, rfl⟩
      have hl2 : Wb.heap[w.heap.size + 1]? = some (.loop { rec .ready none with state := .busy }) := by rw [← hWb]; exact World.putObj_heap_same hlt
      have hk2 : Wb.heap[w.heap.size]? = some (.deferred (some [])) := by rw [← hWb]; exact (World.putObj_heap_other (by omega)).trans hk
      have hs2 : Same Kp W Wb := fun k a => by have := hKp k a; rw [← hWb]; exact World.putObj_heap_other (by omega)
      have hz2 : w.heap.size ≤ Wb.heap.size := by rw [← hWb, World.putObj_size]; omega
      have hi2 : I pre Wb := by
        rw [← hWb]
        exact hI _ _ _ _ hi (turn _ hl rfl (by omega)).1 (turn (.loop (rec .ready none)) hl rfl (by omega)).2
      rw [hWb]
      refine wpIn_mono (hbody _ pre x _ hi2 hz2 hN) ?_
      have fin : ∀ (jump : Option Code) (W3 : World), Keeps w.heap.size Kp Wb W3 →
          (Instr.endRound (w.heap.size + 1) jump).run P W3 = .ok (.bool jump.isNone) (W3.putObj (w.heap.size + 1) (.loop (rec (if jump.isNone then .ready else .done) jump))) ∧
          W3.heap[w.heap.size + 1]? = some (.loop { rec .ready none with state := .busy }) ∧
          (W3.putObj (w.heap.size + 1) (.loop (rec (if jump.isNone then .ready else .done) jump))).heap[w.heap.size + 1]? = some (.loop (rec (if jump.isNone then .ready else .done) jump)) ∧
          (W3.putObj (w.heap.size + 1) (.loop (rec (if jump.isNone then .ready else .done) jump))).heap[w.heap.size]? = some (.deferred (some [])) ∧
          Same Kp W (W3.putObj (w.heap.size + 1) (.loop (rec (if jump.isNone then .ready else .done) jump))) := fun jump W3 hk3 => by
        have hl3 := hk3.oth _ _ (by omega) hl2 rfl
        have := run_endRound (P := P) jump hl3
        rw [hrec] at this ⊢
        refine ⟨this, by rw [hrec] at hl3; exact hl3, World.putObj_heap_same (Array.getElem?_eq_some_iff.1 hl3).1, (World.putObj_heap_other (by omega)).trans (hk3.oth _ _ (by omega) hk2 rfl), fun k a => (World.putObj_heap_other (by have := hKp k a; omega)).trans ((hs2.trans hk3.own) k a)⟩
      rintro e a3 W3 hp
      cases e with
      | normal =>
        obtain ⟨hk3, hi3⟩ := hp
        obtain ⟨hr, hl3, hl4, hk4, hs4⟩ := fin none W3 hk3
        exact ⟨_, _, hr, .inl ⟨rfl, ⟨hI _ _ _ _ hi3 (turn _ hl3 rfl (by omega)).1 (turn (.loop (rec .ready none)) hl3 rfl (by omega)).2, hl4, hk4⟩, hs4⟩⟩
      | ret =>
        obtain ⟨hk3, hi3⟩ := hp
        obtain ⟨hr, hl3, hl4, hk4, hs4⟩ := fin (some .ret) W3 hk3
        exact ⟨_, _, hr, .inr ⟨rfl, hIx _ _ _ _ hi3 (turn _ hl3 rfl (by omega)).1 (turn (.loop (rec .ready none)) hl3 rfl (by omega)).2, hl4, hk4⟩⟩
      | _ => exact hp.elim
    · -- behind the iterator
      rintro e W2 ⟨⟨v, rfl⟩, (⟨xs, hS, hi, hl, hk⟩ | ⟨pre, hSp, hi, hl, hk⟩)⟩
      · refine ⟨none, _, by have := run_endLoop (P := P) hl (by rw [hrec]; simp); rw [hrec] at this; exact this, ?_⟩
        exact hdone _ xs _ (Nat.le_refl _) hS (hI _ _ _ _ hi (turn _ hl rfl (by omega)).1 (turn (.loop (rec .ready none)) hl rfl (by omega)).2) ((World.putObj_heap_other (by omega)).trans hk)
      · refine ⟨some .ret, _, by have := run_endLoop (P := P) hl (by rw [hrec]; simp); rw [hrec] at this; exact this, ?_⟩
        exact hstop _ pre _ (Nat.le_refl _) hSp (hIx _ _ _ _ hi (turn _ hl rfl (by omega)).1 (turn (.loop (rec .ready none)) hl rfl (by omega)).2) ((World.putObj_heap_other (by omega)).trans hk)
end Go.Proofs.YtfmjeggomphliaaGreatDoor.Rf
