/- A call's own blocks, what they hold, and data that the call has made: one fact, carried from operation to operation. No function of the program in sight. -/
import Derived.Test.YtonkjhmkppeagaaGreatDoorMPsC
import Derived.Deep.MidRow
set_option linter.unusedVariables false
set_option linter.unusedSimpArgs false
namespace Go.Proofs.YtonkjhmkppeagaaGreatDoor.Pz
open Go.RowKit Go Ba Lx

abbrev Bx := Nat × List Value
/-- In the call's own memory, in none of its variables. -/
def okL (base : Nat) (L : List Bx) (b : Nat) : Prop := base ≤ b ∧ ∀ p ∈ L, p.1 ≠ b
/-- Blocks of a kind may change; the call's own variables hold this; data lie apart. -/
structure St (S : Nat → Prop) (w0 w : World) (L : List Bx) (D : List (List Dat × List Value)) : Prop where
  kept : Kept S w0 w
  box : ∀ p ∈ L, Box w p.1 p.2
  new : ∀ p ∈ L, w0.heap.size ≤ p.1
  nd : (L.map (·.1)).Nodup
  dat : ∀ q ∈ D, Row w (okL w0.heap.size L) q.1 q.2
section
variable {S : Nat → Prop} {w0 w w' : World} {L : List Bx} {D : List (List Dat × List Value)}
theorem St.start (w : World) : St S w w [] [] := ⟨Kept.refl _ _, fun p h => (by simp at h), fun p h => (by simp at h), List.nodup_nil, fun q h => (by simp at h)⟩
theorem St.alloc (h : St S w0 w L D) (vs : List Value) (t : TypeId) : St S w0 (w.alloc (.cells vs.toArray t)) ((w.heap.size, vs) :: L) D := by
  refine ⟨h.kept.alloc _, fun p hp => ?_, fun p hp => ?_, ?_, fun q hq => ?_⟩
  · rcases List.mem_cons.1 hp with rfl | hp
    · exact Box.new w vs t
    · exact (h.box p hp).alloc _
  · rcases List.mem_cons.1 hp with rfl | hp
    · exact h.kept.size
    · exact h.new p hp
  · rw [List.map_cons, List.nodup_cons]
    refine ⟨fun hm => ?_, h.nd⟩
    obtain ⟨p, hp, e⟩ := List.mem_map.1 hm
    have := (h.box p hp).lt
    rw [e] at this
    exact absurd this (Nat.lt_irrefl _)
  · refine (h.dat q hq).both (Kept.of_below (S := fun _ => False) ((Below.refl _ w).alloc (Nat.le_refl _) _)) (fun _ _ _ x => x) fun b hb ho => ⟨ho.1, fun p hp => ?_⟩
    rcases List.mem_cons.1 hp with rfl | hp
    · show w.heap.size ≠ b
      omega
    · exact ho.2 p hp
/-- A change of older blocks of the kind, and new blocks. -/
theorem St.next {S' : Nat → Prop} (h : St S w0 w L D) (g : Kept S' w w') (hS : ∀ k, S' k → k < w0.heap.size ∧ S k) : St S w0 w' L D := by
  refine ⟨h.kept.then g fun k _ hk => (hS k hk).2, fun p hp => (h.box p hp).kept g fun hk => ?_, h.new, h.nd, fun q hq => (h.dat q hq).kept g fun b _ ho hk => ?_⟩
  · have := (hS _ hk).1; have := h.new p hp; omega
  · have := (hS _ hk).1; have := ho.1; omega
theorem St.below (h : St S w0 w L D) (g : Below w.heap.size w w') : St S w0 w' L D := h.next (S' := fun _ => False) (Kept.of_below g) fun _ x => x.elim
/-- A datum more, in memory newer than a world. -/
theorem St.more (h : St S w0 w L D) (h' : St S w0 w' L D) {ds : List Dat} {cs : List Value} (hr : Row w' (fun b => w.heap.size ≤ b) ds cs) : St S w0 w' L ((ds, cs) :: D) := by
  refine ⟨h'.kept, h'.box, h'.new, h'.nd, fun q hq => ?_⟩
  rcases List.mem_cons.1 hq with rfl | hq
  · refine hr.weak fun b _ ho => ⟨Nat.le_trans h.kept.size ho, fun p hp e => ?_⟩
    have := (h.box p hp).lt
    omega
  · exact h'.dat q hq
/-- Data that are given up. -/
theorem St.less {D' : List (List Dat × List Value)} (h : St S w0 w L D) (hs : ∀ q ∈ D', q ∈ D) : St S w0 w L D' := ⟨h.kept, h.box, h.new, h.nd, fun q hq => h.dat q (hs q hq)⟩
/-- A datum put together out of others, or a plain one. -/
theorem St.put (h : St S w0 w L D) {ds : List Dat} {cs : List Value} (hr : Row w (okL w0.heap.size L) ds cs) : St S w0 w L ((ds, cs) :: D) := ⟨h.kept, h.box, h.new, h.nd, fun q hq => by
  rcases List.mem_cons.1 hq with rfl | hq
  · exact hr
  · exact h.dat q hq⟩
/-- Variables that are forgotten. -/
theorem okL_sub {base : Nat} {L L' : List Bx} (hs : ∀ p ∈ L', p ∈ L) {b : Nat} (h : okL base L b) : okL base L' b := ⟨h.1, fun p hp => h.2 p (hs p hp)⟩
/-- One variable is written. -/
theorem St.wrote (h : St S w0 w L D) {i C : Nat} {us vs : List Value} (hi : L[i]? = some (C, us)) (g : Kept (fun b => b = C) w w') (hb : Box w' C vs) : St S w0 w' (L.set i (C, vs)) D := by
  have hm : (C, us) ∈ L := List.mem_of_getElem? hi
  have hil : i < L.length := (List.getElem?_eq_some_iff.1 hi).1
  have hfst : (L.set i (C, vs)).map (·.1) = L.map (·.1) := by
    rw [List.map_set]
    apply List.ext_getElem?
    intro j
    rw [List.getElem?_set]
    split
    · rename_i e
      subst e
      rw [List.length_map, if_pos hil, List.getElem?_map, hi]; rfl
    · rfl
  have hmem : ∀ p ∈ L.set i (C, vs), p = (C, vs) ∨ (p ∈ L ∧ p.1 ≠ C) := fun p hp => by
    obtain ⟨j, hj⟩ := List.mem_iff_getElem?.1 hp
    rw [List.getElem?_set] at hj
    split at hj
    · rename_i e
      exact .inl (Option.some.inj hj).symm
    · rename_i hne
      refine .inr ⟨List.mem_of_getElem? hj, fun e => hne ?_⟩
      have hjl : j < L.length := (List.getElem?_eq_some_iff.1 hj).1
      have h1 : (L.map (·.1))[i]? = (L.map (·.1))[j]? := by rw [List.getElem?_map, List.getElem?_map, hi, hj]; simp [e]
      exact (List.getElem?_inj (by rw [List.length_map]; exact hil) h.nd).1 h1
  have hok : ∀ b, okL w0.heap.size L b → okL w0.heap.size (L.set i (C, vs)) b := fun b ho => ⟨ho.1, fun p hp => by
    rcases hmem p hp with rfl | ⟨hp, _⟩
    · exact ho.2 (C, us) hm
    · exact ho.2 p hp⟩
  refine ⟨h.kept.then g fun k hk e => ?_, fun p hp => ?_, fun p hp => ?_, by rw [hfst]; exact h.nd, fun q hq => (h.dat q hq).both g (fun b _ ho e => ?_) fun b _ ho => hok b ho⟩
  · have e' : k = C := e
    have := h.new _ hm
    omega
  · rcases hmem p hp with rfl | ⟨hp, hne⟩
    · exact hb
    · exact (h.box p hp).kept g hne
  · rcases hmem p hp with rfl | ⟨hp, _⟩
    · exact h.new (C, us) hm
    · exact h.new p hp
  · have e' : b = C := e
    exact ho.2 (C, us) hm e'.symm
theorem setCells_eq (B : Nat) : ∀ (vs : List Value) (i : Nat) (w : World), w.setCells B i vs = setN w B i vs
  | [], _, _ => rfl
  | v :: vs, i, w => by
    show (w.setCell ⟨B, i, none⟩ v).setCells B (i + 1) vs = setN (w.setCell ⟨B, i, none⟩ v) B (i + 1) vs
    exact setCells_eq B vs (i + 1) _
theorem St.store (h : St S w0 w L D) {i C : Nat} {us vs : List Value} (hi : L[i]? = some (C, us)) (hl : us.length = vs.length) : St S w0 (w.setCells C 0 vs) (L.set i (C, vs)) D := by
  rw [setCells_eq]
  exact h.wrote hi (Kept.setN (S := fun b => b = C) (.inl rfl) vs 0 (Kept.refl _ w)) ((h.box _ (List.mem_of_getElem? hi)).setN hl)
theorem St.store1 (h : St S w0 w L D) {i C : Nat} {us : List Value} (hi : L[i]? = some (C, us)) (o : Nat) (v : Value) : St S w0 (w.setCell ⟨C, o, none⟩ v) (L.set i (C, us.set o v)) D :=
  h.wrote hi ((Kept.refl (fun b => b = C) w).set ⟨C, o, none⟩ (.inl rfl) v) ((h.box _ (List.mem_of_getElem? hi)).put o v)
theorem St.at (h : St S w0 w L D) {i C : Nat} {us : List Value} (hi : L[i]? = some (C, us)) : Box w C us := h.box _ (List.mem_of_getElem? hi)
theorem St.row (h : St S w0 w L D) {j : Nat} {ds : List Dat} {cs : List Value} (hj : D[j]? = some (ds, cs)) : Row w (okL w0.heap.size L) ds cs := h.dat _ (List.mem_of_getElem? hj)
theorem box_there {W : World} {B : Nat} {vs : List Value} (h : Box W B vs) : W.there B 0 vs.length := fun j hj => by
  rw [Nat.zero_add]
  exact ⟨by rw [h.cl j _ (List.getElem?_eq_getElem hj)]; rfl, h.fr j hj⟩
theorem box_range {W : World} {B : Nat} {vs : List Value} (h : Box W B vs) : W.rangeAt B 0 vs := fun j v hv => by rw [Nat.zero_add]; exact h.cl j v hv
end
/-! ### Operations of a list -/
section
variable {P : Program} {ops : Array Oper} {rest : List Oper} {o : Oper} {a : Act} {Q : Exit → Act → World → Prop}
variable {S : Nat → Prop} {w0 w : World} {L : List Bx} {D : List (List Dat × List Value)}
/-- An operation that is wanted, guarded or not. -/
theorem wpList_want (hw : Region.wanted o (yielded ops a.tmps) = true) (h : ∀ K : Act → World → Prop, (∀ a w, wpList P ops Q rest a w → K a w) → o.wp P a w K Q) : wpList P ops Q (o :: rest) a w :=
  wpList_step fun K hK => by rw [if_pos hw]; exact h K hK
theorem run_zero {ty : TypeId} {z : Value} (hz : (P.info? ty).bind (·.zero) = some z) (w : World) : (zeroValue ty).run P w = .ok z w := by
  cases hq : P.info? ty with
  | none => rw [hq] at hz; cases hz
  | some i =>
    rw [hq] at hz
    have hz' : i.zero = some z := hz
    simp [zeroValue, typeInfo, hq, hz', Sem.run_bind]
theorem St.w_alloc (H : St S w0 w L D) (hgd : Region.wanted o (yielded ops a.tmps) = true) {ty : TypeId} (ho : o.op = .alloc ty) {z : Value} (hz : (P.info? ty).bind (·.zero) = some z) {vs : List Value} (hv : z.cells.toList = vs)
    (h : ∀ (w' : World) (C : Nat), w0.heap.size ≤ C → Below w.heap.size w w' → St S w0 w' ((C, vs) :: L) D → wpList P ops Q rest (a.put o.dst (.pointer (some ⟨C, 0, none⟩))) w') : wpList P ops Q (o :: rest) a w := by
  subst hv
  refine wpList_want hgd fun _ hK => ?_
  unfold Oper.wp execOp
  simp only [ho, Instr.alloc, Sem.run_bind, Sem.run_pure, Result.andThen_ok, run_zero hz, newVar, newRow, run_newObj]
  exact hK _ _ (h _ _ H.kept.size ((Below.refl _ w).alloc (Nat.le_refl _) _) (by simpa using H.alloc z.cells.toList ty))
theorem St.w_box (H : St S w0 w L D) (hgd : Region.wanted o (yielded ops a.tmps) = true) {ty : TypeId} {x : Operand} (ho : o.op = .box ty x) {z : Value} (hx : a.eval x = z) {vs : List Value} (hv : z.cells.toList = vs)
    (h : ∀ (w' : World) (C : Nat), w0.heap.size ≤ C → Below w.heap.size w w' → St S w0 w' ((C, vs) :: L) D → wpList P ops Q rest (a.put o.dst (.pointer (some ⟨C, 0, none⟩))) w') : wpList P ops Q (o :: rest) a w := by
  subst hv
  refine wpList_want hgd fun _ hK => ?_
  unfold Oper.wp execOp
  simp only [ho, hx, Instr.box, Sem.run_bind, Sem.run_pure, Result.andThen_ok, newVar, newRow, run_newObj]
  exact hK _ _ (h _ _ H.kept.size ((Below.refl _ w).alloc (Nat.le_refl _) _) (by simpa using H.alloc z.cells.toList ty))
theorem St.w_load (H : St S w0 w L D) (hgd : Region.wanted o (yielded ops a.tmps) = true) {ty : TypeId} {x : Operand} (ho : o.op = .load ty x) {C : Nat} (hx : a.eval x = .pointer (some ⟨C, 0, none⟩)) (i : Nat) {cs : List Value} (hi : L[i]? = some (C, cs))
    (hu : (P.underlying ty).map (·.isRow) = some true) (hs : (P.info? ty).map (·.size) = some cs.length) (h : wpList P ops Q rest (a.put o.dst (.agg cs.toArray)) w) : wpList P ops Q (o :: rest) a w := by
  cases hq : P.underlying ty with
  | none => rw [hq] at hu; cases hu
  | some d =>
    rw [hq] at hu
    exact wpList_want hgd fun _ hK => wp_load_mid ty x ho C 0 hx cs d (box_range (H.at hi)) hq (Option.some.inj hu) hs (hK _ _ h)
theorem St.w_store (H : St S w0 w L D) (hgd : Region.wanted o (yielded ops a.tmps) = true) {ty : TypeId} {x y : Operand} (ho : o.op = .store ty x y) {C : Nat} (hx : a.eval x = .pointer (some ⟨C, 0, none⟩)) {ca : Array Value} (hy : a.eval y = .agg ca) (i : Nat) {us vs : List Value} (hv : ca.toList = vs) (hi : L[i]? = some (C, us))
    (hl : us.length = vs.length) (hs : (P.info? ty).map (·.size) = some vs.length) (h1 : ∀ v ∈ vs, v.oneCell' = true)
    (h : ∀ w' : World, w'.heap.size = w.heap.size → Kept (fun b => b = C) w w' → St S w0 w' (L.set i (C, vs)) D → wpList P ops Q rest (a.put o.dst undef) w') : wpList P ops Q (o :: rest) a w := by
  subst hv
  have hb := H.at hi
  refine wpList_want hgd fun _ hK => wp_store_mid ty x y ho C 0 ca hx hy ?_ (by simpa using hs) (by simpa using all_oneCell_toArray h1) (hK _ _ (h _ ?_ ?_ (H.store hi hl)))
  · have := box_there hb; rw [hl] at this; simpa using this
  · rw [setCells_eq, size_setN]
  · rw [setCells_eq]; exact Kept.setN (S := fun b => b = C) (.inl rfl) _ 0 (Kept.refl _ w)
theorem run_load1 {ty : TypeId} (hu : (P.underlying ty).map (·.isRow) = some false) {p : Addr} {v : Value} (hc : w.cell? p = some v) : (loadVar ty p).run P w = .ok v w := by
  cases hq : P.underlying ty with
  | none => rw [hq] at hu; cases hu
  | some d =>
    rw [hq] at hu
    have hd : d.isRow = false := Option.some.inj hu
    have hagg : (isAgg ty).run P w = .ok false w := by
      unfold isAgg
      rw [Sem.run_bind, run_underlying hq w]
      cases d <;> simp_all
    simp [loadVar, Sem.run_bind, hagg, run_load, hc]
theorem St.w_load1 (H : St S w0 w L D) (hgd : Region.wanted o (yielded ops a.tmps) = true) {ty : TypeId} {x : Operand} (ho : o.op = .load ty x) {C off : Nat} (hx : a.eval x = .pointer (some ⟨C, off, none⟩)) (i : Nat) {cs : List Value} (hi : L[i]? = some (C, cs)) {v : Value} (hv : cs[off]? = some v)
    (hu : (P.underlying ty).map (·.isRow) = some false) (h : wpList P ops Q rest (a.put o.dst v) w) : wpList P ops Q (o :: rest) a w := by
  refine wpList_want hgd fun _ hK => ?_
  unfold Oper.wp execOp
  simp only [ho, hx, Instr.loadAt, Instr.sureAddr, Sem.run_bind, Sem.run_pure, Result.andThen_ok, run_load1 hu ((H.at hi).cl off v hv)]
  exact hK _ _ h
/-- So many cells, written from a place on. -/
def splice : List Value → Nat → List Value → List Value
  | us, _, [] => us
  | us, i, v :: r => splice (us.set i v) (i + 1) r
theorem box_splice {B : Nat} : ∀ (vs : List Value) (i : Nat) {us : List Value} {W : World}, Box W B us → Box (setN W B i vs) B (splice us i vs)
  | [], i, us, W, h => h
  | v :: vs, i, us, W, h => box_splice vs (i + 1) (h.put i v)
theorem St.splice (h : St S w0 w L D) {i C : Nat} {us : List Value} (hi : L[i]? = some (C, us)) (off : Nat) (vs : List Value) : St S w0 (w.setCells C off vs) (L.set i (C, Pz.splice us off vs)) D := by
  rw [setCells_eq]
  exact h.wrote hi (Kept.setN (S := fun b => b = C) (.inl rfl) vs off (Kept.refl _ w)) (box_splice vs off (h.at hi))
theorem St.w_part (H : St S w0 w L D) (hgd : Region.wanted o (yielded ops a.tmps) = true) {ty : TypeId} {x y : Operand} (ho : o.op = .store ty x y) {C off : Nat} (hx : a.eval x = .pointer (some ⟨C, off, none⟩)) {ca : Array Value} (hy : a.eval y = .agg ca) (i : Nat) {us vs : List Value} (hv : ca.toList = vs) (hi : L[i]? = some (C, us))
    (hl : off + vs.length ≤ us.length) (hs : (P.info? ty).map (·.size) = some vs.length) (h1 : ∀ v ∈ vs, v.oneCell' = true)
    (h : ∀ w' : World, w'.heap.size = w.heap.size → Kept (fun b => b = C) w w' → St S w0 w' (L.set i (C, Pz.splice us off vs)) D → wpList P ops Q rest (a.put o.dst undef) w') : wpList P ops Q (o :: rest) a w := by
  subst hv
  have hb := H.at hi
  refine wpList_want hgd fun _ hK => wp_store_mid ty x y ho C off ca hx hy ?_ (by simpa using hs) (by simpa using all_oneCell_toArray h1) (hK _ _ (h _ ?_ ?_ (H.splice hi off _)))
  · intro j hj
    have hj' : off + j < us.length := by simp at hl; omega
    have := box_there hb (off + j) hj'
    rw [Nat.zero_add] at this
    exact this
  · rw [setCells_eq, size_setN]
  · rw [setCells_eq]; exact Kept.setN (S := fun b => b = C) (.inl rfl) _ off (Kept.refl _ w)
theorem run_store1 {ty : TypeId} (hs : (P.info? ty).map (·.size) = some 1) {B off : Nat} {v u : Value} (h1 : v.oneCell' = true) (hc : w.cell? ⟨B, off, none⟩ = some u) (hf : w.frozen? ⟨B, off, none⟩ = false) : (storeVar ty ⟨B, off, none⟩ v).run P w = .ok () (w.setCell ⟨B, off, none⟩ v) := by
  cases hq : P.info? ty with
  | none => rw [hq] at hs; cases hs
  | some i =>
    rw [hq] at hs
    have hs' : i.size = 1 := Option.some.inj hs
    have hvc : v.cells = #[v] := by cases v <;> simp_all [Value.cells, Value.oneCell']
    have e0 : (⟨B, off, none⟩ : Addr).add 0 = ⟨B, off, none⟩ := by rw [Addr.add_mid]; rfl
    simp [storeVar, sizeOf, typeInfo, hq, hs', hvc, storeCells, Sem.run_bind, run_store, h1, hc, hf, e0]
theorem St.w_store1 (H : St S w0 w L D) (hgd : Region.wanted o (yielded ops a.tmps) = true) {ty : TypeId} {x y : Operand} (ho : o.op = .store ty x y) {C off : Nat} (hx : a.eval x = .pointer (some ⟨C, off, none⟩)) {v : Value} (hy : a.eval y = v) (i : Nat) {us : List Value} (hi : L[i]? = some (C, us))
    (hl : off < us.length) (hs : (P.info? ty).map (·.size) = some 1) (h1 : v.oneCell' = true)
    (h : ∀ w' : World, w'.heap.size = w.heap.size → Kept (fun b => b = C) w w' → St S w0 w' (L.set i (C, us.set off v)) D → wpList P ops Q rest (a.put o.dst undef) w') : wpList P ops Q (o :: rest) a w := by
  have hb := H.at hi
  refine wpList_want hgd fun _ hK => ?_
  unfold Oper.wp execOp
  simp only [ho, hx, hy, Instr.storeAt, Instr.sureAddr, Sem.run_bind, Sem.run_pure, Result.andThen_ok, run_store1 hs h1 (hb.cl off _ (List.getElem?_eq_getElem hl)) (hb.fr off hl)]
  exact hK _ _ (h _ (World.size_setCell _ _ _) ((Kept.refl (fun b => b = C) w).set ⟨C, off, none⟩ (.inl rfl) v) (H.store1 hi off v))
/-! ### Results that lie in a variable -/
theorem run_result {ty : TypeId} (hu : (P.underlying ty).map (·.isRow) = some true) {C : Nat} {cs : List Value} (hs : (P.info? ty).map (·.size) = some cs.length) (hb : Box w C cs) : (loadVar ty ⟨C, 0, none⟩).run P w = .ok (.agg cs.toArray) w := by
  cases hq : P.underlying ty with
  | none => rw [hq] at hu; cases hu
  | some d =>
    rw [hq] at hu
    exact run_loadVar_mid w C 0 ty cs d (box_range hb) hq (Option.some.inj hu) hs
theorem St.results (H : St S w0 w L D) {fn : Func} {p : Tmp} {ty : TypeId} (h : fn.results = #[.cell p ty]) {tmps : Array Value} {C : Nat} (hp : tmps.getD p undef = .pointer (some ⟨C, 0, none⟩)) (i : Nat) {cs : List Value} (hi : L[i]? = some (C, cs))
    (hu : (P.underlying ty).map (·.isRow) = some true) (hs : (P.info? ty).map (·.size) = some cs.length) : (Go.results fn tmps).run P w = .ok (.agg cs.toArray) w := by
  have hp' : tmps[p]?.getD undef = .pointer (some ⟨C, 0, none⟩) := by simpa using hp
  simp [Go.results, h, hp', asAddr, run_result hu hs (H.at hi)]
theorem St.results3 (H : St S w0 w L D) {fn : Func} {p q r : Tmp} {ty : TypeId} (h : fn.results = #[.cell p ty, .tmp q, .tmp r]) {tmps : Array Value} {C : Nat} (hp : tmps.getD p undef = .pointer (some ⟨C, 0, none⟩)) (i : Nat) {cs : List Value} (hi : L[i]? = some (C, cs))
    (hu : (P.underlying ty).map (·.isRow) = some true) (hs : (P.info? ty).map (·.size) = some cs.length) : (Go.results fn tmps).run P w = .ok (.tuple #[.agg cs.toArray, tmps.getD q undef, tmps.getD r undef]) w := by
  have hp' : tmps[p]?.getD undef = .pointer (some ⟨C, 0, none⟩) := by simpa using hp
  simp [Go.results, h, hp', asAddr, run_result hu hs (H.at hi)]
end
/-! ### The reader beside it -/
/-- The call's own, and the reader. -/
structure Sr (B d : Nat) (w0 w : World) (s : Ps) (L : List Bx) (D : List (List Dat × List Value)) : Prop where
  st : St (fun b => b = B) w0 w L D
  pat : PAt w B d s
  lt : B < w0.heap.size
section
variable {B d : Nat} {w0 w w' : World} {s s' : Ps} {L : List Bx} {D : List (List Dat × List Value)}
theorem Sr.start (h : PAt w B d s) : Sr B d w w s [] [] := ⟨St.start w, h, h.lt⟩
/-- A call of the reader. -/
theorem Sr.call (h : Sr B d w0 w s L D) (hK : Kept (fun b => b = B) w w') (hP : PAt w' B d s') : Sr B d w0 w' s' L D := ⟨h.st.next hK fun k e => ⟨by have e' : k = B := e; have := h.lt; omega, e⟩, hP, h.lt⟩
/-- A call of the reader that hands back data. -/
theorem Sr.callR (h : Sr B d w0 w s L D) (hK : Kept (fun b => b = B) w w') (hP : PAt w' B d s') {ds : List Dat} {cs : List Value} (hr : Row w' (fun b => w.heap.size ≤ b) ds cs) : Sr B d w0 w' s' L ((ds, cs) :: D) := ⟨h.st.more (h.call hK hP).st hr, hP, h.lt⟩
/-- A call that only makes new memory. -/
theorem Sr.below (h : Sr B d w0 w s L D) (g : Below w.heap.size w w') : Sr B d w0 w' s L D := ⟨h.st.below g, h.pat.below g, h.lt⟩
theorem Sr.own (h : Sr B d w0 w s L D) {w' : World} {C : Nat} {L' : List Bx} {D' : List (List Dat × List Value)} (hC : w0.heap.size ≤ C) (g : Kept (fun b => b = C) w w') (h' : St (fun b => b = B) w0 w' L' D') : Sr B d w0 w' s L' D' := ⟨h', h.pat.kept g fun k e => by have e' : k = C := e; have := h.lt; omega, h.lt⟩
theorem Sr.fresh (h : Sr B d w0 w s L D) {w' : World} {L' : List Bx} {D' : List (List Dat × List Value)} (g : Below w.heap.size w w') (h' : St (fun b => b = B) w0 w' L' D') : Sr B d w0 w' s L' D' := ⟨h', h.pat.below g, h.lt⟩
theorem Sr.put (h : Sr B d w0 w s L D) {ds : List Dat} {cs : List Value} (hr : Row w (okL w0.heap.size L) ds cs) : Sr B d w0 w s L ((ds, cs) :: D) := ⟨h.st.put hr, h.pat, h.lt⟩
variable {P : Program} {ops : Array Oper} {rest : List Oper} {o : Oper} {a : Act} {Q : Exit → Act → World → Prop}
theorem Sr.w_alloc (H : Sr B d w0 w s L D) (hgd : Region.wanted o (yielded ops a.tmps) = true) {ty : TypeId} (ho : o.op = .alloc ty) {z : Value} (hz : (P.info? ty).bind (·.zero) = some z) {vs : List Value} (hv : z.cells.toList = vs)
    (h : ∀ (w' : World) (C : Nat), Sr B d w0 w' s ((C, vs) :: L) D → wpList P ops Q rest (a.put o.dst (.pointer (some ⟨C, 0, none⟩))) w') : wpList P ops Q (o :: rest) a w :=
  H.st.w_alloc hgd ho hz hv fun w' C _ g h' => h w' C (H.fresh g h')
theorem Sr.w_box (H : Sr B d w0 w s L D) (hgd : Region.wanted o (yielded ops a.tmps) = true) {ty : TypeId} {x : Operand} (ho : o.op = .box ty x) {z : Value} (hx : a.eval x = z) {vs : List Value} (hv : z.cells.toList = vs)
    (h : ∀ (w' : World) (C : Nat), Sr B d w0 w' s ((C, vs) :: L) D → wpList P ops Q rest (a.put o.dst (.pointer (some ⟨C, 0, none⟩))) w') : wpList P ops Q (o :: rest) a w :=
  H.st.w_box hgd ho hx hv fun w' C _ g h' => h w' C (H.fresh g h')
theorem Sr.w_store (H : Sr B d w0 w s L D) (hgd : Region.wanted o (yielded ops a.tmps) = true) {ty : TypeId} {x y : Operand} (ho : o.op = .store ty x y) {C : Nat} (hx : a.eval x = .pointer (some ⟨C, 0, none⟩)) {ca : Array Value} (hy : a.eval y = .agg ca) (i : Nat) {us vs : List Value} (hv : ca.toList = vs) (hi : L[i]? = some (C, us))
    (hl : us.length = vs.length) (hs : (P.info? ty).map (·.size) = some vs.length) (h1 : ∀ v ∈ vs, v.oneCell' = true)
    (h : ∀ w' : World, Sr B d w0 w' s (L.set i (C, vs)) D → wpList P ops Q rest (a.put o.dst undef) w') : wpList P ops Q (o :: rest) a w :=
  H.st.w_store hgd ho hx hy i hv hi hl hs h1 fun w' _ g h' => h w' (H.own (H.st.new _ (List.mem_of_getElem? hi)) g h')
theorem Sr.w_part (H : Sr B d w0 w s L D) (hgd : Region.wanted o (yielded ops a.tmps) = true) {ty : TypeId} {x y : Operand} (ho : o.op = .store ty x y) {C off : Nat} (hx : a.eval x = .pointer (some ⟨C, off, none⟩)) {ca : Array Value} (hy : a.eval y = .agg ca) (i : Nat) {us vs : List Value} (hv : ca.toList = vs) (hi : L[i]? = some (C, us))
    (hl : off + vs.length ≤ us.length) (hs : (P.info? ty).map (·.size) = some vs.length) (h1 : ∀ v ∈ vs, v.oneCell' = true)
    (h : ∀ w' : World, Sr B d w0 w' s (L.set i (C, Pz.splice us off vs)) D → wpList P ops Q rest (a.put o.dst undef) w') : wpList P ops Q (o :: rest) a w :=
  H.st.w_part hgd ho hx hy i hv hi hl hs h1 fun w' _ g h' => h w' (H.own (H.st.new _ (List.mem_of_getElem? hi)) g h')
theorem Sr.w_store1 (H : Sr B d w0 w s L D) (hgd : Region.wanted o (yielded ops a.tmps) = true) {ty : TypeId} {x y : Operand} (ho : o.op = .store ty x y) {C off : Nat} (hx : a.eval x = .pointer (some ⟨C, off, none⟩)) {v : Value} (hy : a.eval y = v) (i : Nat) {us : List Value} (hi : L[i]? = some (C, us))
    (hl : off < us.length) (hs : (P.info? ty).map (·.size) = some 1) (h1 : v.oneCell' = true)
    (h : ∀ w' : World, Sr B d w0 w' s (L.set i (C, us.set off v)) D → wpList P ops Q rest (a.put o.dst undef) w') : wpList P ops Q (o :: rest) a w :=
  H.st.w_store1 hgd ho hx hy i hi hl hs h1 fun w' _ g h' => h w' (H.own (H.st.new _ (List.mem_of_getElem? hi)) g h')
end
end Go.Proofs.YtonkjhmkppeagaaGreatDoor.Pz

set_option linter.unusedVariables false
namespace Go.Proofs.YtonkjhmkppeagaaGreatDoor.Pz
open Go.RowKit Go Ba Lx

theorem zEx_ : (Tryz.prog.info? 27).bind (·.zero) = some (.agg #[.int .i64 0, .string ⟨#[]⟩, .int .i64 0, .int .i64 0, .string ⟨#[]⟩, .string ⟨#[]⟩, .slice none 0 0]) := by kernel_rfl
theorem sEx_ : (Tryz.prog.info? 27).map (·.size) = some 7 := by kernel_rfl
theorem uEx_ : (Tryz.prog.underlying 27).map (·.isRow) = some true := by kernel_rfl
theorem zPl_ : (Tryz.prog.info? 57).bind (·.zero) = some (.agg #[.int .i64 0, .string ⟨#[]⟩, .slice none 0 0, .int .i64 0, .string ⟨#[]⟩, .int .i64 0, .int .i64 0, .string ⟨#[]⟩, .string ⟨#[]⟩, .slice none 0 0, .slice none 0 0, .slice none 0 0, .slice none 0 0, .slice none 0 0, .slice none 0 0, .int .i64 0]) := by kernel_rfl
theorem sPl_ : (Tryz.prog.info? 57).map (·.size) = some 16 := by kernel_rfl
theorem uPl_ : (Tryz.prog.underlying 57).map (·.isRow) = some true := by kernel_rfl
theorem zDf_ : (Tryz.prog.info? 88).bind (·.zero) = some (.agg #[.int .i64 0, .string ⟨#[]⟩, .slice none 0 0, .int .i64 0, .int .i64 0, .int .i64 0, .slice none 0 0, .int .i64 0, .string ⟨#[]⟩, .slice none 0 0, .int .i64 0, .string ⟨#[]⟩, .int .i64 0, .int .i64 0, .string ⟨#[]⟩, .string ⟨#[]⟩, .slice none 0 0, .slice none 0 0, .slice none 0 0, .slice none 0 0, .slice none 0 0, .slice none 0 0, .int .i64 0, .string ⟨#[]⟩, .slice none 0 0]) := by kernel_rfl
theorem sDf_ : (Tryz.prog.info? 88).map (·.size) = some 25 := by kernel_rfl
theorem uDf_ : (Tryz.prog.underlying 88).map (·.isRow) = some true := by kernel_rfl
theorem zSc_ : (Tryz.prog.info? 85).bind (·.zero) = some (.agg #[.int .i64 0, .int .i64 0, .int .i64 0]) := by kernel_rfl
theorem sSc_ : (Tryz.prog.info? 85).map (·.size) = some 3 := by kernel_rfl
theorem uSc_ : (Tryz.prog.underlying 85).map (·.isRow) = some true := by kernel_rfl
theorem zMp_ : (Tryz.prog.info? 100).bind (·.zero) = some (.agg #[.int .i64 0, .int .i64 0]) := by kernel_rfl
theorem sMp_ : (Tryz.prog.info? 100).map (·.size) = some 2 := by kernel_rfl
theorem uMp_ : (Tryz.prog.underlying 100).map (·.isRow) = some true := by kernel_rfl
theorem zCo_ : (Tryz.prog.info? 92).bind (·.zero) = some (.agg #[.string ⟨#[]⟩, .int .i64 0]) := by kernel_rfl
theorem sCo_ : (Tryz.prog.info? 92).map (·.size) = some 2 := by kernel_rfl
theorem uCo_ : (Tryz.prog.underlying 92).map (·.isRow) = some true := by kernel_rfl
theorem zPr_ : (Tryz.prog.info? 65).bind (·.zero) = some (.agg #[.string ⟨#[]⟩, .string ⟨#[]⟩]) := by kernel_rfl
theorem sPr_ : (Tryz.prog.info? 65).map (·.size) = some 2 := by kernel_rfl
theorem uPr_ : (Tryz.prog.underlying 65).map (·.isRow) = some true := by kernel_rfl
theorem zAg_ : (Tryz.prog.info? 67).bind (·.zero) = some (.agg #[.string ⟨#[]⟩, .string ⟨#[]⟩, .string ⟨#[]⟩]) := by kernel_rfl
theorem sAg_ : (Tryz.prog.info? 67).map (·.size) = some 3 := by kernel_rfl
theorem uAg_ : (Tryz.prog.underlying 67).map (·.isRow) = some true := by kernel_rfl
theorem zOr_ : (Tryz.prog.info? 69).bind (·.zero) = some (.agg #[.string ⟨#[]⟩, .bool false]) := by kernel_rfl
theorem sOr_ : (Tryz.prog.info? 69).map (·.size) = some 2 := by kernel_rfl
theorem uOr_ : (Tryz.prog.underlying 69).map (·.isRow) = some true := by kernel_rfl
theorem zIn_ : (Tryz.prog.info? 102).bind (·.zero) = some (.agg #[.string ⟨#[]⟩, .int .i64 0, .int .i64 0, .string ⟨#[]⟩]) := by kernel_rfl
theorem sIn_ : (Tryz.prog.info? 102).map (·.size) = some 4 := by kernel_rfl
theorem uIn_ : (Tryz.prog.underlying 102).map (·.isRow) = some true := by kernel_rfl
theorem zTk_ : (Tryz.prog.info? 169).bind (·.zero) = some (.agg #[.int .i64 0, .string ⟨#[]⟩, .int .i64 0, .int .i64 0]) := by kernel_rfl
theorem sTk_ : (Tryz.prog.info? 169).map (·.size) = some 4 := by kernel_rfl
theorem uTk_ : (Tryz.prog.underlying 169).map (·.isRow) = some true := by kernel_rfl
theorem zVl_ : (Tryz.prog.info? 24).bind (·.zero) = some (.agg #[.int .i64 0, .int .i64 0, .string ⟨#[]⟩]) := by kernel_rfl
theorem sVl_ : (Tryz.prog.info? 24).map (·.size) = some 3 := by kernel_rfl
theorem uVl_ : (Tryz.prog.underlying 24).map (·.isRow) = some true := by kernel_rfl
theorem sStr_ : (Tryz.prog.info? 9).map (·.size) = some 1 := by kernel_rfl
theorem uStr_ : (Tryz.prog.underlying 9).map (·.isRow) = some false := by kernel_rfl
theorem sInt_ : (Tryz.prog.info? 3).map (·.size) = some 1 := by kernel_rfl
theorem uInt_ : (Tryz.prog.underlying 3).map (·.isRow) = some false := by kernel_rfl
theorem sBool_ : (Tryz.prog.info? 4).map (·.size) = some 1 := by kernel_rfl
theorem uBool_ : (Tryz.prog.underlying 4).map (·.isRow) = some false := by kernel_rfl
theorem sPar_ : (Tryz.prog.info? 112).map (·.size) = some 1 := by kernel_rfl
theorem uPar_ : (Tryz.prog.underlying 112).map (·.isRow) = some false := by kernel_rfl
theorem sPPl_ : (Tryz.prog.info? 177).map (·.size) = some 1 := by kernel_rfl
theorem uPPl_ : (Tryz.prog.underlying 177).map (·.isRow) = some false := by kernel_rfl
theorem sSStr_ : (Tryz.prog.info? 48).map (·.size) = some 1 := by kernel_rfl
theorem uSStr_ : (Tryz.prog.underlying 48).map (·.isRow) = some false := by kernel_rfl
theorem sSEx_ : (Tryz.prog.info? 25).map (·.size) = some 1 := by kernel_rfl
theorem uSEx_ : (Tryz.prog.underlying 25).map (·.isRow) = some false := by kernel_rfl
theorem sSPl_ : (Tryz.prog.info? 52).map (·.size) = some 1 := by kernel_rfl
theorem uSPl_ : (Tryz.prog.underlying 52).map (·.isRow) = some false := by kernel_rfl
theorem sSPr_ : (Tryz.prog.info? 53).map (·.size) = some 1 := by kernel_rfl
theorem uSPr_ : (Tryz.prog.underlying 53).map (·.isRow) = some false := by kernel_rfl
theorem sSAg_ : (Tryz.prog.info? 54).map (·.size) = some 1 := by kernel_rfl
theorem uSAg_ : (Tryz.prog.underlying 54).map (·.isRow) = some false := by kernel_rfl
theorem sSOr_ : (Tryz.prog.info? 55).map (·.size) = some 1 := by kernel_rfl
theorem uSOr_ : (Tryz.prog.underlying 55).map (·.isRow) = some false := by kernel_rfl
theorem sSIn_ : (Tryz.prog.info? 86).map (·.size) = some 1 := by kernel_rfl
theorem uSIn_ : (Tryz.prog.underlying 86).map (·.isRow) = some false := by kernel_rfl
theorem sSDf_ : (Tryz.prog.info? 74).map (·.size) = some 1 := by kernel_rfl
theorem uSDf_ : (Tryz.prog.underlying 74).map (·.isRow) = some false := by kernel_rfl
theorem sSch_ : (Tryz.prog.info? 83).map (·.size) = some 1 := by kernel_rfl
theorem uSch_ : (Tryz.prog.underlying 83).map (·.isRow) = some false := by kernel_rfl
end Go.Proofs.YtonkjhmkppeagaaGreatDoor.Pz
