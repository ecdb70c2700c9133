/- A call's own blocks, what they hold, and data that the call has made: one fact, carried from operation to operation. No function of the program in sight. -/
import Derived.Test.YtonkjhmkppeagaaGreatDoorMPsC
import Derived.Deep.MidRow
import Derived.Great.BuildSlice
set_option linter.unusedVariables false
set_option linter.unusedSimpArgs false
namespace Go.Proofs.YtonkjhmkppeagaaGreatDoor.Pz
open Go.RowKit Go Ba Lx

abbrev Bx := Nat × List Value
/-- A slice that the call gathers: its type of element, how many cells one has, its value, what it holds, its cells. -/
structure Ow where
  T : TypeId
  k : Nat
  v : Value
  rows : List (List Dat)
  cells : List (List Value)
/-- In the call's own memory, in none of its variables, in no slice that it gathers. -/
def okL (base : Nat) (L : List Bx) (O : List Ow) (b : Nat) : Prop := base ≤ b ∧ (∀ p ∈ L, p.1 ≠ b) ∧ ∀ x ∈ O, x.v.ownBlock ≠ some b
/-- Blocks of a kind may change; the call's own variables hold this; data lie apart; so do slices that are gathered. -/
structure St (S : Nat → Prop) (w0 w : World) (L : List Bx) (D : List (List Dat × List Value)) (O : List Ow) : Prop where
  kept : Kept S w0 w
  box : ∀ p ∈ L, Box w p.1 p.2
  new : ∀ p ∈ L, w0.heap.size ≤ p.1
  nd : (L.map (·.1)).Nodup
  dat : ∀ q ∈ D, Row w (okL w0.heap.size L O) q.1 q.2
  own : ∀ x ∈ O, w.ownsRow w0.heap.size x.T x.k x.v x.rows.length x.cells.flatten
  len : ∀ x ∈ O, x.cells.length = x.rows.length
  row : ∀ x ∈ O, ∀ (i : Nat) (r : List Dat) (cs : List Value), x.rows[i]? = some r → x.cells[i]? = some cs → r.length = x.k ∧ Row w (okL w0.heap.size L O) r cs
  out : ∀ x ∈ O, ∀ b, x.v.ownBlock = some b → ∀ p ∈ L, p.1 ≠ b
  sep : O.Pairwise fun x y => ∀ b, x.v.ownBlock = some b → y.v.ownBlock ≠ some b
section
variable {S : Nat → Prop} {w0 w w' : World} {L : List Bx} {D : List (List Dat × List Value)} {O : List Ow}
theorem St.start (w : World) : St S w w [] [] [] := ⟨Kept.refl _ _, fun p h => (by simp at h), fun p h => (by simp at h), List.nodup_nil, fun q h => (by simp at h), fun q h => (by simp at h), fun q h => (by simp at h), fun q h => (by simp at h), fun q h => (by simp at h), .nil⟩
/-- Worlds change in blocks that hold none of it; the list of variables may turn. -/
theorem St.turn {S' : Nat → Prop} {L' : List Bx} (h : St S w0 w L D O) (g : Kept S' w w') (hk : Kept S w0 w') (hb : ∀ p ∈ L', Box w' p.1 p.2) (hn : ∀ p ∈ L', w0.heap.size ≤ p.1) (hd : (L'.map (·.1)).Nodup)
    (hS : ∀ b, b < w.heap.size → okL w0.heap.size L O b → ¬ S' b) (hS2 : ∀ x ∈ O, ∀ b, x.v.ownBlock = some b → ¬ S' b) (hL : ∀ b, b < w.heap.size → (∀ p ∈ L, p.1 ≠ b) → ∀ p ∈ L', p.1 ≠ b) : St S w0 w' L' D O := by
  have hok : ∀ b, b < w.heap.size → okL w0.heap.size L O b → okL w0.heap.size L' O b := fun b hb ho => ⟨ho.1, hL b hb ho.2.1, ho.2.2⟩
  exact ⟨hk, hb, hn, hd, fun q hq => (h.dat q hq).both g hS hok, fun x hx => own_of_block (h.own x hx) fun b hb => g.block b ((h.own x hx).lt b hb).2 (hS2 x hx b hb), h.len,
    fun x hx i r cs hr hc => ⟨(h.row x hx i r cs hr hc).1, (h.row x hx i r cs hr hc).2.both g hS hok⟩, fun x hx b hb => hL b ((h.own x hx).lt b hb).2 (h.out x hx b hb), h.sep⟩
theorem St.alloc (h : St S w0 w L D O) (vs : List Value) (t : TypeId) : St S w0 (w.alloc (.cells vs.toArray t)) ((w.heap.size, vs) :: L) D O := by
  refine h.turn (S' := fun _ => False) (Kept.of_below ((Below.refl _ w).alloc (Nat.le_refl _) _)) (h.kept.alloc _) (fun p hp => ?_) (fun p hp => ?_) ?_ (fun _ _ _ x => x) (fun _ _ _ _ x => x) fun b hb ho p hp => ?_
  · rcases List.mem_cons.1 hp with rfl | hp
    · exact Box.new w vs t
    · exact (h.box p hp).alloc _
  · rcases List.mem_cons.1 hp with rfl | hp
    · exact h.kept.size
    · exact h.new p hp
  · rw [List.map_cons, List.nodup_cons]
    refine ⟨fun hm => ?_, h.nd⟩
    obtain ⟨p, hp, e⟩ := List.mem_map.1 hm
    have := (h.box p hp).lt
    rw [e] at this
    exact absurd this (Nat.lt_irrefl _)
  · rcases List.mem_cons.1 hp with rfl | hp
    · show w.heap.size ≠ b
      omega
    · exact ho p hp
/-- A change of older blocks of the kind, and new blocks. -/
theorem St.next {S' : Nat → Prop} (h : St S w0 w L D O) (g : Kept S' w w') (hS : ∀ k, S' k → k < w0.heap.size ∧ S k) : St S w0 w' L D O := by
  refine h.turn g (h.kept.then g fun k _ hk => (hS k hk).2) (fun p hp => (h.box p hp).kept g fun hk => ?_) h.new h.nd (fun b _ ho hk => ?_) (fun x hx b hb hk => ?_) fun _ _ ho => ho
  · have := (hS _ hk).1; have := h.new p hp; omega
  · have := (hS _ hk).1; have := ho.1; omega
  · have := (hS _ hk).1; have := ((h.own x hx).lt b hb).1; omega
theorem St.below (h : St S w0 w L D O) (g : Below w.heap.size w w') : St S w0 w' L D O := h.next (S' := fun _ => False) (Kept.of_below g) fun _ x => x.elim
theorem okL_fresh {B : Nat} (h : St S w0 w L D O) {b : Nat} (hb : w.heap.size ≤ b) : okL w0.heap.size L O b := by
  refine ⟨Nat.le_trans h.kept.size hb, fun p hp e => ?_, fun x hx e => ?_⟩
  · have := (h.box p hp).lt; omega
  · have := ((h.own x hx).lt b e).2; omega
/-- A datum more, in memory newer than a world. -/
theorem St.more (h : St S w0 w L D O) (h' : St S w0 w' L D O) {ds : List Dat} {cs : List Value} (hr : Row w' (fun b => w.heap.size ≤ b) ds cs) : St S w0 w' L ((ds, cs) :: D) O := by
  refine ⟨h'.kept, h'.box, h'.new, h'.nd, fun q hq => ?_, h'.own, h'.len, h'.row, h'.out, h'.sep⟩
  rcases List.mem_cons.1 hq with rfl | hq
  · exact hr.weak fun b _ ho => okL_fresh (B := 0) h ho
  · exact h'.dat q hq
/-- Data that are given up. -/
theorem St.less {D' : List (List Dat × List Value)} (h : St S w0 w L D O) (hs : ∀ q ∈ D', q ∈ D) : St S w0 w L D' O := ⟨h.kept, h.box, h.new, h.nd, fun q hq => h.dat q (hs q hq), h.own, h.len, h.row, h.out, h.sep⟩
/-- A datum put together out of others, or a plain one. -/
theorem St.put (h : St S w0 w L D O) {ds : List Dat} {cs : List Value} (hr : Row w (okL w0.heap.size L O) ds cs) : St S w0 w L ((ds, cs) :: D) O := ⟨h.kept, h.box, h.new, h.nd, fun q hq => by
  rcases List.mem_cons.1 hq with rfl | hq
  · exact hr
  · exact h.dat q hq, h.own, h.len, h.row, h.out, h.sep⟩
/-- Variables that are forgotten. -/
theorem St.drop {L' : List Bx} (h : St S w0 w L D O) (hs : L'.Sublist L) : St S w0 w L' D O :=
  h.turn (S' := fun _ => False) (Kept.refl _ w) h.kept (fun p hp => h.box p (hs.subset hp)) (fun p hp => h.new p (hs.subset hp)) ((hs.map _).nodup h.nd) (fun _ _ _ x => x) (fun _ _ _ _ x => x) fun b _ ho p hp => ho p (hs.subset hp)
/-- One variable is written. -/
theorem St.wrote (h : St S w0 w L D O) {i C : Nat} {us vs : List Value} (hi : L[i]? = some (C, us)) (g : Kept (fun b => b = C) w w') (hb : Box w' C vs) : St S w0 w' (L.set i (C, vs)) D O := by
  have hm : (C, us) ∈ L := List.mem_of_getElem? hi
  have hil : i < L.length := (List.getElem?_eq_some_iff.1 hi).1
  have hfst : (L.set i (C, vs)).map (·.1) = L.map (·.1) := by
    rw [List.map_set]
    apply List.ext_getElem?
    intro j
    rw [List.getElem?_set]
    split
    · rename_i e
      subst e
      rw [List.length_map, if_pos hil, List.getElem?_map, hi]; rfl
    · rfl
  have hmem : ∀ p ∈ L.set i (C, vs), p = (C, vs) ∨ (p ∈ L ∧ p.1 ≠ C) := fun p hp => by
    obtain ⟨j, hj⟩ := List.mem_iff_getElem?.1 hp
    rw [List.getElem?_set] at hj
    split at hj
    · rename_i e
      exact .inl (Option.some.inj hj).symm
    · rename_i hne
      refine .inr ⟨List.mem_of_getElem? hj, fun e => hne ?_⟩
      have hjl : j < L.length := (List.getElem?_eq_some_iff.1 hj).1
      have h1 : (L.map (·.1))[i]? = (L.map (·.1))[j]? := by rw [List.getElem?_map, List.getElem?_map, hi, hj]; simp [e]
      exact (List.getElem?_inj (by rw [List.length_map]; exact hil) h.nd).1 h1
  refine h.turn g (h.kept.then g fun k hk e => ?_) (fun p hp => ?_) (fun p hp => ?_) (by rw [hfst]; exact h.nd) (fun b _ ho e => ?_) (fun x hx b hb e => ?_) fun b _ ho p hp => ?_
  · have e' : k = C := e
    have := h.new _ hm
    omega
  · rcases hmem p hp with rfl | ⟨hp, hne⟩
    · exact hb
    · exact (h.box p hp).kept g hne
  · rcases hmem p hp with rfl | ⟨hp, _⟩
    · exact h.new (C, us) hm
    · exact h.new p hp
  · have e' : b = C := e
    exact ho.2.1 (C, us) hm e'.symm
  · have e' : b = C := e
    exact h.out x hx b hb (C, us) hm e'.symm
  · rcases hmem p hp with rfl | ⟨hp, _⟩
    · exact ho (C, us) hm
    · exact ho p hp
/-- A slice that is gathered is written, in its own block or a new one. -/
theorem St.regrew (h : St S w0 w L D O) {i : Nat} {x : Ow} (hi : O[i]? = some x) {v' : Value} {R : List (List Dat)} {C : List (List Value)} (hl : C.length = R.length) (hrow : ∀ (a : Nat) (r : List Dat) (cs : List Value), R[a]? = some r → C[a]? = some cs → r.length = x.k ∧ Row w (okL w0.heap.size L O) r cs)
    (ho : w'.ownsRow w0.heap.size x.T x.k v' R.length C.flatten) (g : Kept (fun b => x.v.ownBlock = some b) w w') (hv : v'.ownBlock = x.v.ownBlock ∨ ∃ b, v'.ownBlock = some b ∧ w.heap.size ≤ b) :
    St S w0 w' L D (O.set i ⟨x.T, x.k, v', R, C⟩) := by
  have hm : x ∈ O := List.mem_of_getElem? hi
  have hil : i < O.length := (List.getElem?_eq_some_iff.1 hi).1
  have hsame : ∀ (j : Nat) (y : Ow), O[j]? = some y → j ≠ i → ∀ b, x.v.ownBlock = some b → y.v.ownBlock ≠ some b := fun j y hj hne b hb e => by
    have hjl := (List.getElem?_eq_some_iff.1 hj).1
    have hx := List.pairwise_iff_getElem.1 h.sep
    obtain ⟨_, ej⟩ := List.getElem?_eq_some_iff.1 hj
    obtain ⟨_, ei⟩ := List.getElem?_eq_some_iff.1 hi
    rcases Nat.lt_or_gt_of_ne hne with hlt | hlt
    · exact hx j i hjl hil hlt b (by rw [ej]; exact e) (by rw [ei]; exact hb)
    · exact hx i j hil hjl hlt b (by rw [ei]; exact hb) (by rw [ej]; exact e)
  have hmem : ∀ y ∈ O.set i ⟨x.T, x.k, v', R, C⟩, y = ⟨x.T, x.k, v', R, C⟩ ∨ ∃ j, O[j]? = some y ∧ j ≠ i := fun y hy => by
    obtain ⟨j, hj⟩ := List.mem_iff_getElem?.1 hy
    rw [List.getElem?_set] at hj
    split at hj
    · exact .inl (Option.some.inj hj).symm
    · rename_i hne
      exact .inr ⟨j, hj, fun e => hne e.symm⟩
  have hold : ∀ b, v'.ownBlock = some b → x.v.ownBlock = some b ∨ w.heap.size ≤ b := fun b hb => by
    rcases hv with e | ⟨c, e, hc⟩
    · exact .inl (by rw [← e]; exact hb)
    · rw [e] at hb
      cases hb
      exact .inr hc
  have hS : ∀ b, b < w.heap.size → okL w0.heap.size L O b → ¬ x.v.ownBlock = some b := fun b _ ho => ho.2.2 x hm
  have hok : ∀ b, b < w.heap.size → okL w0.heap.size L O b → okL w0.heap.size L (O.set i ⟨x.T, x.k, v', R, C⟩) b := fun b hb ho => ⟨ho.1, ho.2.1, fun y hy => by
    rcases hmem y hy with rfl | ⟨j, hj, _⟩
    · intro e
      rcases hold b e with e | e
      · exact ho.2.2 x hm e
      · omega
    · exact ho.2.2 y (List.mem_of_getElem? hj)⟩
  refine ⟨h.kept.then g fun k hk e => ?_, fun p hp => (h.box p hp).kept g fun e => h.out x hm _ e p hp rfl, h.new, h.nd, fun q hq => (h.dat q hq).both g hS hok, fun y hy => ?_, fun y hy => ?_, fun y hy a s c hs hc => ?_, fun y hy b hb p hp => ?_, ?_⟩
  · have := ((h.own x hm).lt k e).1; omega
  · rcases hmem y hy with rfl | ⟨j, hj, hne⟩
    · exact ho
    · exact own_of_block (h.own y (List.mem_of_getElem? hj)) fun b hb => g.block b ((h.own y (List.mem_of_getElem? hj)).lt b hb).2 fun e => hsame j y hj hne b e hb
  · rcases hmem y hy with rfl | ⟨j, hj, _⟩
    · exact hl
    · exact h.len y (List.mem_of_getElem? hj)
  · rcases hmem y hy with rfl | ⟨j, hj, _⟩
    · obtain ⟨g1, g2⟩ := hrow a s c hs hc
      exact ⟨g1, g2.both g hS hok⟩
    · obtain ⟨g1, g2⟩ := h.row y (List.mem_of_getElem? hj) a s c hs hc
      exact ⟨g1, g2.both g hS hok⟩
  · rcases hmem y hy with rfl | ⟨j, hj, _⟩
    · rcases hold b hb with e | e
      · exact h.out x hm b e p hp
      · have := (h.box p hp).lt; omega
    · exact h.out y (List.mem_of_getElem? hj) b hb p hp
  · rw [List.pairwise_iff_getElem]
    intro a c ha hc hac b hb hb2
    rw [List.length_set] at ha hc
    rw [List.getElem_set] at hb hb2
    have old : ∀ (j : Nat) (hj : j < O.length), j ≠ i → ∀ b, O[j].v.ownBlock = some b → b < w.heap.size ∧ x.v.ownBlock ≠ some b := fun j hj hne b hb => ⟨((h.own _ (List.getElem_mem hj)).lt b hb).2, fun e => hsame j _ (List.getElem?_eq_getElem hj) hne b e hb⟩
    split at hb
    · rename_i ea
      split at hb2
      · rename_i ec; omega
      · rename_i ec
        obtain ⟨k1, k2⟩ := old c hc (fun e => ec e.symm) b hb2
        rcases hold b hb with e | e
        · exact k2 e
        · omega
    · rename_i ea
      split at hb2
      · obtain ⟨k1, k2⟩ := old a ha (fun e => ea e.symm) b hb
        rcases hold b hb2 with e | e
        · exact k2 e
        · omega
      · exact List.pairwise_iff_getElem.1 h.sep a c ha hc hac b hb hb2
theorem snoc_at {x : Ow} (hlen : x.cells.length = x.rows.length) {r s : List Dat} {cs c : List Value} {R : List (List Dat)} {C : List (List Value)} (hR : R.length = C.length) {a : Nat} (hs : (R ++ [r])[a]? = some s) (hc : (C ++ [cs])[a]? = some c) : (R[a]? = some s ∧ C[a]? = some c) ∨ (s = r ∧ c = cs) := by
  rw [List.getElem?_append] at hs hc
  rw [← hR] at hc
  split at hs
  · rename_i hlt
    rw [if_pos hlt] at hc
    exact .inl ⟨hs, hc⟩
  · rename_i hlt
    rw [if_neg hlt] at hc
    have hi0 : a - R.length = 0 := by
      have := (List.getElem?_eq_some_iff.1 hs).1
      simp at this; omega
    rw [hi0] at hs hc
    simp only [List.getElem?_cons_zero, Option.some.injEq] at hs hc
    exact .inr ⟨hs.symm, hc.symm⟩
/-- A row is appended to a slice that is gathered. -/
theorem St.grew (h : St S w0 w L D O) {i : Nat} {x : Ow} (hi : O[i]? = some x) {v' : Value} {r : List Dat} {cs : List Value} (hrl : r.length = x.k) (hr : Row w (okL w0.heap.size L O) r cs)
    (ho : w'.ownsRow w0.heap.size x.T x.k v' (x.rows.length + 1) (x.cells.flatten ++ cs)) (hg : w.grownBy w' x.v.ownBlock) (hv : v'.ownBlock = x.v.ownBlock ∨ ∃ b, v'.ownBlock = some b ∧ w.heap.size ≤ b) :
    St S w0 w' L D (O.set i ⟨x.T, x.k, v', x.rows ++ [r], x.cells ++ [cs]⟩) := by
  have hm : x ∈ O := List.mem_of_getElem? hi
  refine h.regrew hi (by rw [List.length_append, List.length_append, h.len x hm]; rfl) (fun a s c hs hc => ?_) (by rw [List.length_append, List.flatten_append]; simpa using ho) (Kept.grown (Kept.refl _ w) hg fun b hb => .inl hb) hv
  rcases snoc_at (h.len x hm) (h.len x hm).symm hs hc with ⟨e1, e2⟩ | ⟨rfl, rfl⟩
  · exact h.row x hm a s c e1 e2
  · exact ⟨hrl, hr⟩
/-- The last row of a slice that is gathered is written anew. -/
theorem St.repl (h : St S w0 w L D O) {i g n cap k : Nat} {T : TypeId} {R : List (List Dat)} {C : List (List Value)} {r0 r : List Dat} {c0 cs : List Value} (hi : O[i]? = some ⟨T, k, .slice (some ⟨g, 0, none⟩) n cap, R ++ [r0], C ++ [c0]⟩) (hrl : r.length = k) (hr : Row w (okL w0.heap.size L O) r cs) :
    St S w0 (setN w g (R.length * k) cs) L D (O.set i ⟨T, k, .slice (some ⟨g, 0, none⟩) n cap, R ++ [r], C ++ [cs]⟩) := by
  have hm := List.mem_of_getElem? hi
  have hlen : C.length = R.length := by have := h.len _ hm; simpa using this
  have hown : Own w w0.heap.size T k (.slice (some ⟨g, 0, none⟩) n cap) (R ++ [r0]) (C ++ [c0]) := ⟨h.own _ hm, h.len _ hm, fun a s c hs hc => ⟨(h.row _ hm a s c hs hc).1, (h.row _ hm a s c hs hc).2.weak fun b _ ho => ⟨ho.1, ho.2.2 _ hm⟩⟩⟩
  have h2 := hown.put hlen hrl (hr.weak fun b _ ho => ⟨ho.1, fun e => ho.2.2 _ hm (by rw [← e]; rfl)⟩)
  refine h.regrew hi h2.len (fun a s c hs hc => ?_) h2.own (Kept.setN (S := fun b => (Value.slice (some (⟨g, 0, none⟩ : Addr)) n cap).ownBlock = some b) (.inl rfl) cs _ (Kept.refl _ w)) (.inl rfl)
  rcases snoc_at (x := ⟨T, k, .slice (some ⟨g, 0, none⟩) n cap, R, C⟩) hlen hlen.symm hs hc with ⟨e1, e2⟩ | ⟨rfl, rfl⟩
  · exact h.row _ hm a s c (by show (R ++ [r0])[a]? = _; rw [List.getElem?_append_left (List.getElem?_eq_some_iff.1 e1).1]; exact e1) (by show (C ++ [c0])[a]? = _; rw [List.getElem?_append_left (List.getElem?_eq_some_iff.1 e2).1]; exact e2)
  · exact ⟨hrl, hr⟩
/-- A new slice to be gathered. -/
theorem St.gather (h : St S w0 w L D O) (T : TypeId) (k : Nat) : St S w0 w L D (⟨T, k, .slice none 0 0, [], []⟩ :: O) := by
  have hok : ∀ b, okL w0.heap.size L O b → okL w0.heap.size L (⟨T, k, .slice none 0 0, [], []⟩ :: O) b := fun b ho => ⟨ho.1, ho.2.1, fun y hy => by
    rcases List.mem_cons.1 hy with rfl | hy
    · intro e; cases e
    · exact ho.2.2 y hy⟩
  refine ⟨h.kept, h.box, h.new, h.nd, fun q hq => (h.dat q hq).weak fun b _ ho => hok b ho, fun y hy => ?_, fun y hy => ?_, fun y hy a s c hs hc => ?_, fun y hy b hb => ?_, ?_⟩
  · rcases List.mem_cons.1 hy with rfl | hy
    · exact World.ownsRow_nil _ _ _ _
    · exact h.own y hy
  · rcases List.mem_cons.1 hy with rfl | hy
    · rfl
    · exact h.len y hy
  · rcases List.mem_cons.1 hy with rfl | hy
    · simp at hs
    · obtain ⟨g1, g2⟩ := h.row y hy a s c hs hc
      exact ⟨g1, g2.weak fun b _ ho => hok b ho⟩
  · rcases List.mem_cons.1 hy with rfl | hy
    · cases hb
    · exact h.out y hy b hb
  · rw [List.pairwise_cons]
    exact ⟨fun y _ b hb => (by cases hb), h.sep⟩
theorem okL_shut {base : Nat} {x : Ow} {b : Nat} (h : okL base L (x :: O) b) : okL base L O b := ⟨h.1, h.2.1, fun y hy => h.2.2 y (List.mem_cons_of_mem _ hy)⟩
/-- A slice that was gathered is a datum. -/
theorem St.shut {x : Ow} (h : St S w0 w L D (x :: O)) : St S w0 w L (([.sl x.k x.rows], [x.v]) :: D) O := by
  have hm : x ∈ x :: O := List.mem_cons_self
  have hsep := List.pairwise_cons.1 h.sep
  have hcs : ∀ c ∈ x.cells, c.length = x.k := fun c hc => by
    obtain ⟨i, hi⟩ := List.mem_iff_getElem?.1 hc
    have hlt := (List.getElem?_eq_some_iff.1 hi).1
    have hr : x.rows[i]? = some (x.rows[i]'(by rw [← h.len x hm]; exact hlt)) := List.getElem?_eq_getElem _
    obtain ⟨g1, g2⟩ := h.row x hm i _ c hr hi
    rw [← g2.1]; exact g1
  have hrep : Rep w (okL w0.heap.size L O) (.sl x.k x.rows) x.v := by
    obtain ⟨ao, cap, hv, h1, h2, h4⟩ := SlAt.of hcs (by rw [h.len x hm]; exact h.own x hm)
    rw [h.len x hm] at hv h1
    have hx : ∀ b, x.v.ownBlock = some b → okL w0.heap.size L O b := fun b hb => ⟨((h.own x hm).lt b hb).1, fun p hp => h.out x hm b hb p hp, fun y hy => hsep.1 y hy b hb⟩
    rw [hv] at hx ⊢
    refine .sl x.k x.rows ao cap x.cells h1 h2 (h.len x hm) (fun i r cs hr hc => ⟨(h.row x hm i r cs hr hc).1, hcs cs (List.mem_of_getElem? hc)⟩) (fun i cs hi => ?_) (fun i r cs j d c hr hc hd hcc => ((h.row x hm i r cs hr hc).2.2 j d c hd hcc).weak fun b _ ho => okL_shut ho)
    obtain ⟨b, o, e1, e2, e3⟩ := h4 i cs hi
    subst e1
    exact ⟨b, o, rfl, e2, hx b rfl, e3⟩
  refine ⟨h.kept, h.box, h.new, h.nd, fun q hq => ?_, fun y hy => h.own y (List.mem_cons_of_mem _ hy), fun y hy => h.len y (List.mem_cons_of_mem _ hy), fun y hy a s c hs hc => ?_, fun y hy => h.out y (List.mem_cons_of_mem _ hy), hsep.2⟩
  · rcases List.mem_cons.1 hq with rfl | hq
    · exact (Row.nil w _).cons hrep
    · exact (h.dat q hq).weak fun b _ ho => okL_shut ho
  · obtain ⟨g1, g2⟩ := h.row y (List.mem_cons_of_mem _ hy) a s c hs hc
    exact ⟨g1, g2.weak fun b _ ho => okL_shut ho⟩
theorem okL_add {base : Nat} {x : Ow} {C n : Nat} (hv : x.v.ownBlock = some C) (hn : n ≤ C) {b : Nat} (hb : b < n) (h : okL base L O b) : okL base L (x :: O) b := ⟨h.1, h.2.1, fun y hy => by
  rcases List.mem_cons.1 hy with rfl | hy
  · intro e; rw [hv] at e; have := Option.some.inj e; omega
  · exact h.2.2 y hy⟩
/-- A literal of one row is a slice that may be gathered on. -/
theorem St.litO (h : St S w0 w L D O) (T : TypeId) {k : Nat} {r : List Dat} {cs : List Value} (hk : r.length = k) (hr : Row w (okL w0.heap.size L O) r cs) : St S w0 (w.alloc (.cells cs.toArray T)) L D (⟨T, k, .slice (some ⟨w.heap.size, 0, none⟩) 1 1, [r], [cs]⟩ :: O) := by
  have g : Kept (fun _ => False) w (w.alloc (.cells cs.toArray T)) := Kept.of_below ((Below.refl _ w).alloc (Nat.le_refl _) _)
  have hcl : cs.length = k := by rw [← hr.1]; exact hk
  have hok : ∀ b, b < w.heap.size → okL w0.heap.size L O b → okL w0.heap.size L (⟨T, k, .slice (some ⟨w.heap.size, 0, none⟩) 1 1, [r], [cs]⟩ :: O) b := fun b hb ho => okL_add (C := w.heap.size) rfl (Nat.le_refl _) hb ho
  refine ⟨h.kept.alloc _, fun p hp => (h.box p hp).alloc _, h.new, h.nd, fun q hq => (h.dat q hq).both g (fun _ _ _ x => x) hok, fun y hy => ?_, fun y hy => ?_, fun y hy a s c hs hc => ?_, fun y hy b hb p hp => ?_, ?_⟩
  · rcases List.mem_cons.1 hy with rfl | hy
    · refine ⟨by simp [hcl], .inr ⟨w.heap.size, 1, cs.toArray, rfl, h.kept.size, heap_alloc_new w _, Nat.le_refl _, by unfold maxLen; decide, by simp [hcl], ?_⟩⟩
      show (cs.toArray.toList).take (1 * k) = [cs].flatten
      rw [Nat.one_mul, List.take_of_length_le (by simp [hcl])]
      simp
    · exact (h.own y hy).alloc _
  · rcases List.mem_cons.1 hy with rfl | hy
    · rfl
    · exact h.len y hy
  · rcases List.mem_cons.1 hy with rfl | hy
    · cases a with
      | zero =>
        simp only [List.getElem?_cons_zero, Option.some.injEq] at hs hc
        subst hs hc
        exact ⟨hk, hr.both g (fun _ _ _ x => x) hok⟩
      | succ a => simp at hs
    · obtain ⟨g1, g2⟩ := h.row y hy a s c hs hc
      exact ⟨g1, g2.both g (fun _ _ _ x => x) hok⟩
  · rcases List.mem_cons.1 hy with rfl | hy
    · have e : b = w.heap.size := (Option.some.inj hb).symm
      have := (h.box p hp).lt
      omega
    · exact h.out y hy b hb p hp
  · rw [List.pairwise_cons]
    refine ⟨fun y hy b hb e => ?_, h.sep⟩
    have e1 : b = w.heap.size := (Option.some.inj hb).symm
    have := ((h.own y hy).lt b e).2
    omega
theorem all_one {vs : List Value} (h : vs.all (fun v => v.oneCell') = true) : ∀ v ∈ vs, v.oneCell' = true := fun v hv => List.all_eq_true.1 h v hv
theorem setCells_eq (B : Nat) : ∀ (vs : List Value) (i : Nat) (w : World), w.setCells B i vs = setN w B i vs
  | [], _, _ => rfl
  | v :: vs, i, w => by
    show (w.setCell ⟨B, i, none⟩ v).setCells B (i + 1) vs = setN (w.setCell ⟨B, i, none⟩ v) B (i + 1) vs
    exact setCells_eq B vs (i + 1) _
theorem St.store (h : St S w0 w L D O) {i C : Nat} {us vs : List Value} (hi : L[i]? = some (C, us)) (hl : us.length = vs.length) : St S w0 (w.setCells C 0 vs) (L.set i (C, vs)) D O := by
  rw [setCells_eq]
  exact h.wrote hi (Kept.setN (S := fun b => b = C) (.inl rfl) vs 0 (Kept.refl _ w)) ((h.box _ (List.mem_of_getElem? hi)).setN hl)
theorem St.store1 (h : St S w0 w L D O) {i C : Nat} {us : List Value} (hi : L[i]? = some (C, us)) (o : Nat) (v : Value) : St S w0 (w.setCell ⟨C, o, none⟩ v) (L.set i (C, us.set o v)) D O :=
  h.wrote hi ((Kept.refl (fun b => b = C) w).set ⟨C, o, none⟩ (.inl rfl) v) ((h.box _ (List.mem_of_getElem? hi)).put o v)
theorem St.at (h : St S w0 w L D O) {i C : Nat} {us : List Value} (hi : L[i]? = some (C, us)) : Box w C us := h.box _ (List.mem_of_getElem? hi)
theorem St.rowAt (h : St S w0 w L D O) {j : Nat} {ds : List Dat} {cs : List Value} (hj : D[j]? = some (ds, cs)) : Row w (okL w0.heap.size L O) ds cs := h.dat _ (List.mem_of_getElem? hj)
theorem box_there {W : World} {B : Nat} {vs : List Value} (h : Box W B vs) : W.there B 0 vs.length := fun j hj => by
  rw [Nat.zero_add]
  exact ⟨by rw [h.cl j _ (List.getElem?_eq_getElem hj)]; rfl, h.fr j hj⟩
theorem box_range {W : World} {B : Nat} {vs : List Value} (h : Box W B vs) : W.rangeAt B 0 vs := fun j v hv => by rw [Nat.zero_add]; exact h.cl j v hv
end
/-! ### Operations of a list -/
section
variable {P : Program} {ops : Array Oper} {rest : List Oper} {o : Oper} {a : Act} {Q : Exit → Act → World → Prop}
variable {S : Nat → Prop} {w0 w : World} {L : List Bx} {D : List (List Dat × List Value)} {O : List Ow}
/-- An operation that is wanted, guarded or not. -/
theorem wpList_want (hw : Region.wanted o (yielded ops a.tmps) = true) (h : ∀ K : Act → World → Prop, (∀ a w, wpList P ops Q rest a w → K a w) → o.wp P a w K Q) : wpList P ops Q (o :: rest) a w :=
  wpList_step fun K hK => by rw [if_pos hw]; exact h K hK
theorem run_zero {ty : TypeId} {z : Value} (hz : (P.info? ty).bind (·.zero) = some z) (w : World) : (zeroValue ty).run P w = .ok z w := by
  cases hq : P.info? ty with
  | none => rw [hq] at hz; cases hz
  | some i =>
    rw [hq] at hz
    have hz' : i.zero = some z := hz
    simp [zeroValue, typeInfo, hq, hz', Sem.run_bind]
theorem St.w_alloc (H : St S w0 w L D O) (hgd : Region.wanted o (yielded ops a.tmps) = true) {ty : TypeId} (ho : o.op = .alloc ty) {z : Value} (hz : (P.info? ty).bind (·.zero) = some z) {vs : List Value} (hv : z.cells.toList = vs)
    (h : ∀ (w' : World) (C : Nat), w0.heap.size ≤ C → Below w.heap.size w w' → St S w0 w' ((C, vs) :: L) D O → wpList P ops Q rest (a.put o.dst (.pointer (some ⟨C, 0, none⟩))) w') : wpList P ops Q (o :: rest) a w := by
  subst hv
  refine wpList_want hgd fun _ hK => ?_
  unfold Oper.wp execOp
  simp only [ho, Instr.alloc, Sem.run_bind, Sem.run_pure, Result.andThen_ok, run_zero hz, newVar, newRow, run_newObj]
  exact hK _ _ (h _ _ H.kept.size ((Below.refl _ w).alloc (Nat.le_refl _) _) (by simpa using H.alloc z.cells.toList ty))
theorem St.w_box (H : St S w0 w L D O) (hgd : Region.wanted o (yielded ops a.tmps) = true) {ty : TypeId} {x : Operand} (ho : o.op = .box ty x) {z : Value} (hx : a.eval x = z) {vs : List Value} (hv : z.cells.toList = vs)
    (h : ∀ (w' : World) (C : Nat), w0.heap.size ≤ C → Below w.heap.size w w' → St S w0 w' ((C, vs) :: L) D O → wpList P ops Q rest (a.put o.dst (.pointer (some ⟨C, 0, none⟩))) w') : wpList P ops Q (o :: rest) a w := by
  subst hv
  refine wpList_want hgd fun _ hK => ?_
  unfold Oper.wp execOp
  simp only [ho, hx, Instr.box, Sem.run_bind, Sem.run_pure, Result.andThen_ok, newVar, newRow, run_newObj]
  exact hK _ _ (h _ _ H.kept.size ((Below.refl _ w).alloc (Nat.le_refl _) _) (by simpa using H.alloc z.cells.toList ty))
theorem St.w_load (H : St S w0 w L D O) (hgd : Region.wanted o (yielded ops a.tmps) = true) {ty : TypeId} {x : Operand} (ho : o.op = .load ty x) {C : Nat} (hx : a.eval x = .pointer (some ⟨C, 0, none⟩)) (i : Nat) {cs : List Value} (hi : L[i]? = some (C, cs))
    (hu : (P.underlying ty).map (·.isRow) = some true) (hs : (P.info? ty).map (·.size) = some cs.length) (h : wpList P ops Q rest (a.put o.dst (.agg cs.toArray)) w) : wpList P ops Q (o :: rest) a w := by
  cases hq : P.underlying ty with
  | none => rw [hq] at hu; cases hu
  | some d =>
    rw [hq] at hu
    exact wpList_want hgd fun _ hK => wp_load_mid ty x ho C 0 hx cs d (box_range (H.at hi)) hq (Option.some.inj hu) hs (hK _ _ h)
theorem St.w_store (H : St S w0 w L D O) (hgd : Region.wanted o (yielded ops a.tmps) = true) {ty : TypeId} {x y : Operand} (ho : o.op = .store ty x y) {C : Nat} (hx : a.eval x = .pointer (some ⟨C, 0, none⟩)) {ca : Array Value} (hy : a.eval y = .agg ca) (i : Nat) {us vs : List Value} (hv : ca.toList = vs) (hi : L[i]? = some (C, us))
    (hl : us.length = vs.length) (hs : (P.info? ty).map (·.size) = some vs.length) (h1 : ∀ v ∈ vs, v.oneCell' = true)
    (h : ∀ w' : World, w'.heap.size = w.heap.size → Kept (fun b => b = C) w w' → St S w0 w' (L.set i (C, vs)) D O → wpList P ops Q rest (a.put o.dst undef) w') : wpList P ops Q (o :: rest) a w := by
  subst hv
  have hb := H.at hi
  refine wpList_want hgd fun _ hK => wp_store_mid ty x y ho C 0 ca hx hy ?_ (by simpa using hs) (by simpa using all_oneCell_toArray h1) (hK _ _ (h _ ?_ ?_ (H.store hi hl)))
  · have := box_there hb; rw [hl] at this; simpa using this
  · rw [setCells_eq, size_setN]
  · rw [setCells_eq]; exact Kept.setN (S := fun b => b = C) (.inl rfl) _ 0 (Kept.refl _ w)
theorem run_load1 {ty : TypeId} (hu : (P.underlying ty).map (·.isRow) = some false) {p : Addr} {v : Value} (hc : w.cell? p = some v) : (loadVar ty p).run P w = .ok v w := by
  cases hq : P.underlying ty with
  | none => rw [hq] at hu; cases hu
  | some d =>
    rw [hq] at hu
    have hd : d.isRow = false := Option.some.inj hu
    have hagg : (isAgg ty).run P w = .ok false w := by
      unfold isAgg
      rw [Sem.run_bind, run_underlying hq w]
      cases d <;> simp_all
    simp [loadVar, Sem.run_bind, hagg, run_load, hc]
theorem wpList_load_cell (hgd : Region.wanted o (yielded ops a.tmps) = true) {ty : TypeId} {x : Operand} (ho : o.op = .load ty x) {p : Addr} (hx : a.eval x = .pointer (some p)) {v : Value} (hc : w.cell? p = some v)
    (hu : (P.underlying ty).map (·.isRow) = some false) (h : wpList P ops Q rest (a.put o.dst v) w) : wpList P ops Q (o :: rest) a w := by
  refine wpList_want hgd fun _ hK => ?_
  unfold Oper.wp execOp
  simp only [ho, hx, Instr.loadAt, Instr.sureAddr, Sem.run_bind, Sem.run_pure, Result.andThen_ok, run_load1 hu hc]
  exact hK _ _ h
theorem St.w_load1 (H : St S w0 w L D O) (hgd : Region.wanted o (yielded ops a.tmps) = true) {ty : TypeId} {x : Operand} (ho : o.op = .load ty x) {C off : Nat} (hx : a.eval x = .pointer (some ⟨C, off, none⟩)) (i : Nat) {cs : List Value} (hi : L[i]? = some (C, cs)) {v : Value} (hv : cs[off]? = some v)
    (hu : (P.underlying ty).map (·.isRow) = some false) (h : wpList P ops Q rest (a.put o.dst v) w) : wpList P ops Q (o :: rest) a w := by
  refine wpList_want hgd fun _ hK => ?_
  unfold Oper.wp execOp
  simp only [ho, hx, Instr.loadAt, Instr.sureAddr, Sem.run_bind, Sem.run_pure, Result.andThen_ok, run_load1 hu ((H.at hi).cl off v hv)]
  exact hK _ _ h
/-- So many cells, written from a place on. -/
def splice : List Value → Nat → List Value → List Value
  | us, _, [] => us
  | us, i, v :: r => splice (us.set i v) (i + 1) r
theorem box_splice {B : Nat} : ∀ (vs : List Value) (i : Nat) {us : List Value} {W : World}, Box W B us → Box (setN W B i vs) B (splice us i vs)
  | [], i, us, W, h => h
  | v :: vs, i, us, W, h => box_splice vs (i + 1) (h.put i v)
theorem St.splice (h : St S w0 w L D O) {i C : Nat} {us : List Value} (hi : L[i]? = some (C, us)) (off : Nat) (vs : List Value) : St S w0 (w.setCells C off vs) (L.set i (C, Pz.splice us off vs)) D O := by
  rw [setCells_eq]
  exact h.wrote hi (Kept.setN (S := fun b => b = C) (.inl rfl) vs off (Kept.refl _ w)) (box_splice vs off (h.at hi))
theorem St.w_part (H : St S w0 w L D O) (hgd : Region.wanted o (yielded ops a.tmps) = true) {ty : TypeId} {x y : Operand} (ho : o.op = .store ty x y) {C off : Nat} (hx : a.eval x = .pointer (some ⟨C, off, none⟩)) {ca : Array Value} (hy : a.eval y = .agg ca) (i : Nat) {us vs : List Value} (hv : ca.toList = vs) (hi : L[i]? = some (C, us))
    (hl : off + vs.length ≤ us.length) (hs : (P.info? ty).map (·.size) = some vs.length) (h1 : ∀ v ∈ vs, v.oneCell' = true)
    (h : ∀ w' : World, w'.heap.size = w.heap.size → Kept (fun b => b = C) w w' → St S w0 w' (L.set i (C, Pz.splice us off vs)) D O → wpList P ops Q rest (a.put o.dst undef) w') : wpList P ops Q (o :: rest) a w := by
  subst hv
  have hb := H.at hi
  refine wpList_want hgd fun _ hK => wp_store_mid ty x y ho C off ca hx hy ?_ (by simpa using hs) (by simpa using all_oneCell_toArray h1) (hK _ _ (h _ ?_ ?_ (H.splice hi off _)))
  · intro j hj
    have hj' : off + j < us.length := by simp at hl; omega
    have := box_there hb (off + j) hj'
    rw [Nat.zero_add] at this
    exact this
  · rw [setCells_eq, size_setN]
  · rw [setCells_eq]; exact Kept.setN (S := fun b => b = C) (.inl rfl) _ off (Kept.refl _ w)
theorem run_store1 {ty : TypeId} (hs : (P.info? ty).map (·.size) = some 1) {B off : Nat} {v u : Value} (h1 : v.oneCell' = true) (hc : w.cell? ⟨B, off, none⟩ = some u) (hf : w.frozen? ⟨B, off, none⟩ = false) : (storeVar ty ⟨B, off, none⟩ v).run P w = .ok () (w.setCell ⟨B, off, none⟩ v) := by
  cases hq : P.info? ty with
  | none => rw [hq] at hs; cases hs
  | some i =>
    rw [hq] at hs
    have hs' : i.size = 1 := Option.some.inj hs
    have hvc : v.cells = #[v] := by cases v <;> simp_all [Value.cells, Value.oneCell']
    have e0 : (⟨B, off, none⟩ : Addr).add 0 = ⟨B, off, none⟩ := by rw [Addr.add_mid]; rfl
    simp [storeVar, sizeOf, typeInfo, hq, hs', hvc, storeCells, Sem.run_bind, run_store, h1, hc, hf, e0]
theorem St.w_store1 (H : St S w0 w L D O) (hgd : Region.wanted o (yielded ops a.tmps) = true) {ty : TypeId} {x y : Operand} (ho : o.op = .store ty x y) {C off : Nat} (hx : a.eval x = .pointer (some ⟨C, off, none⟩)) {v : Value} (hy : a.eval y = v) (i : Nat) {us : List Value} (hi : L[i]? = some (C, us))
    (hl : off < us.length) (hs : (P.info? ty).map (·.size) = some 1) (h1 : v.oneCell' = true)
    (h : ∀ w' : World, w'.heap.size = w.heap.size → Kept (fun b => b = C) w w' → St S w0 w' (L.set i (C, us.set off v)) D O → wpList P ops Q rest (a.put o.dst undef) w') : wpList P ops Q (o :: rest) a w := by
  have hb := H.at hi
  refine wpList_want hgd fun _ hK => ?_
  unfold Oper.wp execOp
  simp only [ho, hx, hy, Instr.storeAt, Instr.sureAddr, Sem.run_bind, Sem.run_pure, Result.andThen_ok, run_store1 hs h1 (hb.cl off _ (List.getElem?_eq_getElem hl)) (hb.fr off hl)]
  exact hK _ _ (h _ (World.size_setCell _ _ _) ((Kept.refl (fun b => b = C) w).set ⟨C, off, none⟩ (.inl rfl) v) (H.store1 hi off v))
theorem St.o_store1 (H : St S w0 w L D O) {K : Act → World → Prop} {ty : TypeId} {x y : Operand} (ho : o.op = .store ty x y) {C off : Nat} (hx : a.eval x = .pointer (some ⟨C, off, none⟩)) {v : Value} (hy : a.eval y = v) (i : Nat) {us : List Value} (hi : L[i]? = some (C, us))
    (hl : off < us.length) (hs : (P.info? ty).map (·.size) = some 1) (h1 : v.oneCell' = true)
    (h : ∀ w' : World, w'.heap.size = w.heap.size → Kept (fun b => b = C) w w' → St S w0 w' (L.set i (C, us.set off v)) D O → K (a.put o.dst undef) w') : o.wp P a w K Q := by
  have hb := H.at hi
  unfold Oper.wp execOp
  simp only [ho, hx, hy, Instr.storeAt, Instr.sureAddr, Sem.run_bind, Sem.run_pure, Result.andThen_ok, run_store1 hs h1 (hb.cl off _ (List.getElem?_eq_getElem hl)) (hb.fr off hl)]
  exact h _ (World.size_setCell _ _ _) ((Kept.refl (fun b => b = C) w).set ⟨C, off, none⟩ (.inl rfl) v) (H.store1 hi off v)
theorem St.o_alloc (H : St S w0 w L D O) {K : Act → World → Prop} {ty : TypeId} (ho : o.op = .alloc ty) {z : Value} (hz : (P.info? ty).bind (·.zero) = some z) {vs : List Value} (hv : z.cells.toList = vs)
    (h : ∀ (w' : World) (C : Nat), Below w.heap.size w w' → St S w0 w' ((C, vs) :: L) D O → K (a.put o.dst (.pointer (some ⟨C, 0, none⟩))) w') : o.wp P a w K Q := by
  subst hv
  unfold Oper.wp execOp
  simp only [ho, Instr.alloc, Sem.run_bind, Sem.run_pure, Result.andThen_ok, run_zero hz, newVar, newRow, run_newObj]
  exact h _ _ ((Below.refl _ w).alloc (Nat.le_refl _) _) (by simpa using H.alloc z.cells.toList ty)
theorem o_load_cell {K : Act → World → Prop} {ty : TypeId} {x : Operand} (ho : o.op = .load ty x) {p : Addr} (hx : a.eval x = .pointer (some p)) {v : Value} (hc : w.cell? p = some v)
    (hu : (P.underlying ty).map (·.isRow) = some false) (h : K (a.put o.dst v) w) : o.wp P a w K Q := by
  unfold Oper.wp execOp
  simp only [ho, hx, Instr.loadAt, Instr.sureAddr, Sem.run_bind, Sem.run_pure, Result.andThen_ok, run_load1 hu hc]
  exact h
/-! ### Literals, appends -/
theorem St.o_lit (H : St S w0 w L D O) {K : Act → World → Prop} {t e : TypeId} {n : Nat} {parts : Array (Nat × Operand)} (ho : o.op = .buildSlice t n parts) (hu : P.underlying t = some (.slice e)) {k : Nat} {z : Value} (hi : (P.info? e).map (fun i => (i.zero, i.size)) = some (some z, k)) (vs : List Value)
    (hp : (parts.toList.map fun p => (p.1, a.eval p.2)) = (vs.zipIdx 0).map fun x => (x.2, x.1)) (hn : n = vs.length) (hz : z.cells.size = k) (hk : 0 < k) (hn0 : 0 < n) (hnk : n * k ≤ 2 ^ 24) (h1 : ∀ v ∈ vs, v.cells.size = k) {cs : List Value} (hcs : (vs.flatMap fun v => v.cells.toList) = cs)
    (h : ∀ (w' : World) (C : Nat), Below w.heap.size w w' → St S w0 w' ((C, cs) :: L) D O → K (a.put o.dst (.slice (some ⟨C, 0, none⟩) n n)) w') : o.wp P a w K Q := by
  subst hcs
  cases hq : P.info? e with
  | none => rw [hq] at hi; cases hi
  | some i =>
    rw [hq] at hi
    have hi' : (i.zero, i.size) = (some z, k) := Option.some.inj hi
    obtain ⟨e1, e2⟩ := Prod.ext_iff.1 hi'
    simp only at e1 e2
    subst e2
    refine wp_buildSlice t e n parts ho (vs.flatMap fun v => v.cells.toList).toArray i z hu hq e1 (by omega) (fun h0 => by have := Nat.mul_pos hn0 hk; omega) ?_ (h _ _ ((Below.refl _ w).alloc (Nat.le_refl _) _) (H.alloc _ e))
    rw [Array.toList_map, show (parts.toList.map fun (x : Nat × Operand) => (x.1, a.eval x.2)) = _ from hp]
    exact Great.fill_whole hk vs _ h1 (by simp [hn])
theorem St.w_lit (H : St S w0 w L D O) (hgd : Region.wanted o (yielded ops a.tmps) = true) {t e : TypeId} {n : Nat} {parts : Array (Nat × Operand)} (ho : o.op = .buildSlice t n parts) (hu : P.underlying t = some (.slice e)) {k : Nat} {z : Value} (hi : (P.info? e).map (fun i => (i.zero, i.size)) = some (some z, k)) (vs : List Value)
    (hp : (parts.toList.map fun p => (p.1, a.eval p.2)) = (vs.zipIdx 0).map fun x => (x.2, x.1)) (hn : n = vs.length) (hz : z.cells.size = k) (hk : 0 < k) (hn0 : 0 < n) (hnk : n * k ≤ 2 ^ 24) (h1 : ∀ v ∈ vs, v.cells.size = k) {cs : List Value} (hcs : (vs.flatMap fun v => v.cells.toList) = cs)
    (h : ∀ (w' : World) (C : Nat), Below w.heap.size w w' → St S w0 w' ((C, cs) :: L) D O → wpList P ops Q rest (a.put o.dst (.slice (some ⟨C, 0, none⟩) n n)) w') : wpList P ops Q (o :: rest) a w :=
  wpList_want hgd fun _ hK => H.o_lit ho hu hi vs hp hn hz hk hn0 hnk h1 hcs fun w' C g h' => hK _ _ (h w' C g h')
theorem St.o_lit1 (H : St S w0 w L D O) {K : Act → World → Prop} {t e : TypeId} {x : Operand} (ho : o.op = .buildSlice t 1 #[(0, x)]) (hu : P.underlying t = some (.slice e)) {k : Nat} {z : Value} (hi : (P.info? e).map (fun i => (i.zero, i.size)) = some (some z, k)) {v : Value} (hx : a.eval x = v)
    (hz : z.cells.size = k) (hk : 0 < k) (hnk : k ≤ 2 ^ 24) (h1 : v.cells.size = k) {cs : List Value} (hcs : v.cells.toList = cs)
    (h : ∀ (w' : World) (C : Nat), Below w.heap.size w w' → St S w0 w' ((C, cs) :: L) D O → K (a.put o.dst (.slice (some ⟨C, 0, none⟩) 1 1)) w') : o.wp P a w K Q := by
  subst hx hcs
  exact H.o_lit ho hu hi [a.eval x] rfl rfl hz hk (by decide) (by omega) (fun v hv => by obtain rfl := List.mem_singleton.1 hv; exact h1) (by simp) h
theorem St.o_litO1 (H : St S w0 w L D O) {K : Act → World → Prop} {t e : TypeId} {x : Operand} (ho : o.op = .buildSlice t 1 #[(0, x)]) (hu : P.underlying t = some (.slice e)) {k : Nat} {z : Value} (hi : (P.info? e).map (fun i => (i.zero, i.size)) = some (some z, k)) {v : Value} (hx : a.eval x = v)
    (hz : z.cells.size = k) (hk : 0 < k) (hnk : k ≤ 2 ^ 24) (h1 : v.cells.size = k) {cs : List Value} (hcs : v.cells.toList = cs) {r : List Dat} (hrl : r.length = k) (hr : Row w (okL w0.heap.size L O) r cs)
    (h : ∀ (w' : World) (C : Nat), Below w.heap.size w w' → St S w0 w' L D (⟨e, k, .slice (some ⟨C, 0, none⟩) 1 1, [r], [cs]⟩ :: O) → K (a.put o.dst (.slice (some ⟨C, 0, none⟩) 1 1)) w') : o.wp P a w K Q := by
  subst hx hcs
  cases hq : P.info? e with
  | none => rw [hq] at hi; cases hi
  | some i =>
    rw [hq] at hi
    have hi' : (i.zero, i.size) = (some z, k) := Option.some.inj hi
    obtain ⟨e1, e2⟩ := Prod.ext_iff.1 hi'
    simp only at e1 e2
    subst e2
    refine wp_buildSlice t e 1 #[(0, x)] ho ([a.eval x].flatMap fun v => v.cells.toList).toArray i z hu hq e1 (by omega) (by omega) ?_ (h _ _ ((Below.refl _ w).alloc (Nat.le_refl _) _) (by simpa using H.litO e hrl hr))
    rw [Array.toList_map]
    exact Great.fill_whole hk [a.eval x] _ (fun v hv => by obtain rfl := List.mem_singleton.1 hv; exact h1) (by simp)
theorem St.o_append (H : St S w0 w L D O) {K : Act → World → Prop} {s x : Operand} {t e : TypeId} (ho : o.op = .call { callee := .builtin .append, args := #[s, x], argTypes := #[t, t] }) (ht : P.underlying t = some (.slice e)) {z : Value} {k bytes : Nat} (hi : (P.info? e).map (fun i => (i.zero, i.size, i.bytes)) = some (some z, k, bytes))
    (hzs : z.cells.size = k) (hk : 0 < k) (hb1 : bytes ≤ 1000) (i : Nat) {X : Ow} (hO : O[i]? = some X) (hT : X.T = e) (hX : X.k = k) (hs : a.eval s = X.v) {C : Nat} (hx : a.eval x = .slice (some ⟨C, 0, none⟩) 1 1) (j : Nat) {cs : List Value} (hj : L[j]? = some (C, cs)) {r : List Dat} (hrl : r.length = X.k) (hr : Row w (okL w0.heap.size L O) r cs) (hlen : X.rows.length + 1 ≤ 1000000)
    (h : ∀ (w' : World) (ao : Option Addr) (cap : Nat), Kept (fun b => w0.heap.size ≤ b) w w' → St S w0 w' L D (O.set i ⟨X.T, X.k, .slice ao (X.rows.length + 1) cap, X.rows ++ [r], X.cells ++ [cs]⟩) → K (a.put o.dst (.slice ao (X.rows.length + 1) cap)) w') : o.wp P a w K Q := by
  have hm : X ∈ O := List.mem_of_getElem? hO
  have hown := H.own X hm
  cases hq : P.info? e with
  | none => rw [hq] at hi; cases hi
  | some ii =>
    rw [hq] at hi
    have hi' : (ii.zero, ii.size, ii.bytes) = (some z, k, bytes) := Option.some.inj hi
    obtain ⟨e1, e23⟩ := Prod.ext_iff.1 hi'
    obtain ⟨e2, e3⟩ := Prod.ext_iff.1 e23
    simp only at e1 e2 e3
    have hcl : cs.length = k := by rw [← hr.1, hrl, hX]
    obtain ⟨v', w', hrun, h1, h2, h3⟩ := run_append_mine (P := P) w w0.heap.size t o.type e ii z k bytes ht hq e1 e2 e3 hzs hk X.v X.rows.length X.cells.flatten (by rw [← hT, ← hX]; exact hown) ⟨C, 0, none⟩ 1 cs (by omega)
      (fun j' u hj' => by
        have e4 : (⟨C, 0, none⟩ : Addr).add j' = ⟨C, j', none⟩ := by rw [Addr.add_mid]; simp
        rw [e4]; exact (H.at hj).cl j' u hj') hr.one (by unfold maxLen; omega) (by
          have : (X.rows.length + 1) * bytes ≤ 1000000 * 1000 := Nat.mul_le_mul hlen hb1
          omega) H.kept.size
    have hform : ∃ ao cap, v' = .slice ao (X.rows.length + 1) cap := by
      rcases h1.2 with ⟨_, h0⟩ | ⟨g, cap, cur, e4, _⟩
      · omega
      · exact ⟨_, _, e4⟩
    obtain ⟨ao, cap, rfl⟩ := hform
    unfold Oper.wp execOp
    simp only [ho, resolve, invoke, builtin, Sem.run_bind, Sem.run_pure, Result.andThen_ok, List.map_toArray, List.map_cons, List.map_nil, hs, hx, hrun]
    exact h w' ao cap ((Kept.refl _ w).grown h2 fun b hb => .inl (hown.lt b hb).1) (H.grew hO hrl hr (by rw [hT, hX]; exact h1) h2 h3)
theorem St.w_append (H : St S w0 w L D O) (hgd : Region.wanted o (yielded ops a.tmps) = true) {s x : Operand} {t e : TypeId} (ho : o.op = .call { callee := .builtin .append, args := #[s, x], argTypes := #[t, t] }) (ht : P.underlying t = some (.slice e)) {z : Value} {k bytes : Nat} (hi : (P.info? e).map (fun i => (i.zero, i.size, i.bytes)) = some (some z, k, bytes))
    (hzs : z.cells.size = k) (hk : 0 < k) (hb1 : bytes ≤ 1000) (i : Nat) {X : Ow} (hO : O[i]? = some X) (hT : X.T = e) (hX : X.k = k) (hs : a.eval s = X.v) {C : Nat} (hx : a.eval x = .slice (some ⟨C, 0, none⟩) 1 1) (j : Nat) {cs : List Value} (hj : L[j]? = some (C, cs)) {r : List Dat} (hrl : r.length = X.k) (hr : Row w (okL w0.heap.size L O) r cs) (hlen : X.rows.length + 1 ≤ 1000000)
    (h : ∀ (w' : World) (ao : Option Addr) (cap : Nat), Kept (fun b => w0.heap.size ≤ b) w w' → St S w0 w' L D (O.set i ⟨X.T, X.k, .slice ao (X.rows.length + 1) cap, X.rows ++ [r], X.cells ++ [cs]⟩) → wpList P ops Q rest (a.put o.dst (.slice ao (X.rows.length + 1) cap)) w') : wpList P ops Q (o :: rest) a w :=
  wpList_want hgd fun _ hK => H.o_append ho ht hi hzs hk hb1 i hO hT hX hs hx j hj hrl hr hlen fun w' ao cap g h' => hK _ _ (h w' ao cap g h')
theorem St.o_put (H : St S w0 w L D O) {K : Act → World → Prop} {ty : TypeId} {x y : Operand} (ho : o.op = .store ty x y) (i : Nat) {g n cap k : Nat} {T : TypeId} {R : List (List Dat)} {C : List (List Value)} {r0 r : List Dat} {c0 cs : List Value} (hi : O[i]? = some ⟨T, k, .slice (some ⟨g, 0, none⟩) n cap, R ++ [r0], C ++ [c0]⟩)
    (hx : a.eval x = .pointer (some ⟨g, R.length * k, none⟩)) {ca : Array Value} (hy : a.eval y = .agg ca) (hca : ca.toList = cs) (hs : (P.info? ty).map (·.size) = some k) (hrl : r.length = k) (hr : Row w (okL w0.heap.size L O) r cs)
    (h : ∀ w' : World, Kept (fun b => w0.heap.size ≤ b) w w' → St S w0 w' L D (O.set i ⟨T, k, .slice (some ⟨g, 0, none⟩) n cap, R ++ [r], C ++ [cs]⟩) → K (a.put o.dst undef) w') : o.wp P a w K Q := by
  subst hca
  have hm := List.mem_of_getElem? hi
  have hlen : C.length = R.length := by have := h; have := H.len _ hm; simpa using this
  have hown : Own w w0.heap.size T k (.slice (some ⟨g, 0, none⟩) n cap) (R ++ [r0]) (C ++ [c0]) := ⟨H.own _ hm, H.len _ hm, fun a s c hs hc => ⟨(H.row _ hm a s c hs hc).1, (H.row _ hm a s c hs hc).2.weak fun b _ ho => ⟨ho.1, ho.2.2 _ hm⟩⟩⟩
  have hck : ca.size = k := by have := hr.1; rw [hrl] at this; simpa using this.symm
  have hc0 : c0.length = k := hown.cs c0 (by simp)
  refine wp_store_mid ty x y ho g (R.length * k) ca hx hy (fun j hj => ?_) (by rw [hck]; exact hs) (by have := all_oneCell_toArray hr.one; simpa using this) ?_
  · have hat : (C ++ [c0])[R.length]? = some c0 := by rw [← hlen, List.getElem?_append_right (Nat.le_refl _), Nat.sub_self]; rfl
    exact ⟨by rw [hown.at hat (List.getElem?_eq_getElem (by omega))]; rfl, hown.free _⟩
  · rw [setCells_eq]
    exact h _ (Kept.setN (.inl ((H.own _ hm).lt g rfl).1) _ _ (Kept.refl _ w)) (H.repl hi hrl hr)
/-! ### Results that lie in a variable -/
theorem run_result {ty : TypeId} (hu : (P.underlying ty).map (·.isRow) = some true) {C : Nat} {cs : List Value} (hs : (P.info? ty).map (·.size) = some cs.length) (hb : Box w C cs) : (loadVar ty ⟨C, 0, none⟩).run P w = .ok (.agg cs.toArray) w := by
  cases hq : P.underlying ty with
  | none => rw [hq] at hu; cases hu
  | some d =>
    rw [hq] at hu
    exact run_loadVar_mid w C 0 ty cs d (box_range hb) hq (Option.some.inj hu) hs
theorem St.results (H : St S w0 w L D O) {fn : Func} {p : Tmp} {ty : TypeId} (h : fn.results = #[.cell p ty]) {tmps : Array Value} {C : Nat} (hp : tmps.getD p undef = .pointer (some ⟨C, 0, none⟩)) (i : Nat) {cs : List Value} (hi : L[i]? = some (C, cs))
    (hu : (P.underlying ty).map (·.isRow) = some true) (hs : (P.info? ty).map (·.size) = some cs.length) : (Go.results fn tmps).run P w = .ok (.agg cs.toArray) w := by
  have hp' : tmps[p]?.getD undef = .pointer (some ⟨C, 0, none⟩) := by simpa using hp
  simp [Go.results, h, hp', asAddr, run_result hu hs (H.at hi)]
theorem St.results3 (H : St S w0 w L D O) {fn : Func} {p q r : Tmp} {ty : TypeId} (h : fn.results = #[.cell p ty, .tmp q, .tmp r]) {tmps : Array Value} {C : Nat} (hp : tmps.getD p undef = .pointer (some ⟨C, 0, none⟩)) (i : Nat) {cs : List Value} (hi : L[i]? = some (C, cs))
    (hu : (P.underlying ty).map (·.isRow) = some true) (hs : (P.info? ty).map (·.size) = some cs.length) : (Go.results fn tmps).run P w = .ok (.tuple #[.agg cs.toArray, tmps.getD q undef, tmps.getD r undef]) w := by
  have hp' : tmps[p]?.getD undef = .pointer (some ⟨C, 0, none⟩) := by simpa using hp
  simp [Go.results, h, hp', asAddr, run_result hu hs (H.at hi)]
end
/-! ### The reader beside it -/
/-- The call's own, and the reader. -/
structure Sr (B d : Nat) (w0 w : World) (s : Ps) (L : List Bx) (D : List (List Dat × List Value)) (O : List Ow) : Prop where
  st : St (fun b => b = B) w0 w L D O
  pat : PAt w B d s
  lt : B < w0.heap.size
section
variable {B d : Nat} {w0 w w' : World} {s s' : Ps} {L : List Bx} {D : List (List Dat × List Value)} {O : List Ow}
theorem Sr.start (h : PAt w B d s) : Sr B d w w s [] [] [] := ⟨St.start w, h, h.lt⟩
/-- A call of the reader. -/
theorem Sr.call (h : Sr B d w0 w s L D O) (hK : Kept (fun b => b = B) w w') (hP : PAt w' B d s') : Sr B d w0 w' s' L D O := ⟨h.st.next hK fun k e => ⟨by have e' : k = B := e; have := h.lt; omega, e⟩, hP, h.lt⟩
/-- A call of the reader that hands back data. -/
theorem Sr.callR (h : Sr B d w0 w s L D O) (hK : Kept (fun b => b = B) w w') (hP : PAt w' B d s') {ds : List Dat} {cs : List Value} (hr : Row w' (fun b => w.heap.size ≤ b) ds cs) : Sr B d w0 w' s' L ((ds, cs) :: D) O := ⟨h.st.more (h.call hK hP).st hr, hP, h.lt⟩
/-- A call that only makes new memory. -/
theorem Sr.below (h : Sr B d w0 w s L D O) (g : Below w.heap.size w w') : Sr B d w0 w' s L D O := ⟨h.st.below g, h.pat.below g, h.lt⟩
theorem Sr.own (h : Sr B d w0 w s L D O) {w' : World} {C : Nat} {L' : List Bx} {D' : List (List Dat × List Value)} {O' : List Ow} (hC : w0.heap.size ≤ C) (g : Kept (fun b => b = C) w w') (h' : St (fun b => b = B) w0 w' L' D' O') : Sr B d w0 w' s L' D' O' := ⟨h', h.pat.kept g fun k e => by have e' : k = C := e; have := h.lt; omega, h.lt⟩
theorem Sr.fresh (h : Sr B d w0 w s L D O) {w' : World} {L' : List Bx} {D' : List (List Dat × List Value)} {O' : List Ow} (g : Below w.heap.size w w') (h' : St (fun b => b = B) w0 w' L' D' O') : Sr B d w0 w' s L' D' O' := ⟨h', h.pat.below g, h.lt⟩
theorem Sr.put (h : Sr B d w0 w s L D O) {ds : List Dat} {cs : List Value} (hr : Row w (okL w0.heap.size L O) ds cs) : Sr B d w0 w s L ((ds, cs) :: D) O := ⟨h.st.put hr, h.pat, h.lt⟩
variable {P : Program} {ops : Array Oper} {rest : List Oper} {o : Oper} {a : Act} {Q : Exit → Act → World → Prop}
theorem Sr.w_alloc (H : Sr B d w0 w s L D O) (hgd : Region.wanted o (yielded ops a.tmps) = true) {ty : TypeId} (ho : o.op = .alloc ty) {z : Value} (hz : (P.info? ty).bind (·.zero) = some z) {vs : List Value} (hv : z.cells.toList = vs)
    (h : ∀ (w' : World) (C : Nat), Sr B d w0 w' s ((C, vs) :: L) D O → wpList P ops Q rest (a.put o.dst (.pointer (some ⟨C, 0, none⟩))) w') : wpList P ops Q (o :: rest) a w :=
  H.st.w_alloc hgd ho hz hv fun w' C _ g h' => h w' C (H.fresh g h')
theorem Sr.w_box (H : Sr B d w0 w s L D O) (hgd : Region.wanted o (yielded ops a.tmps) = true) {ty : TypeId} {x : Operand} (ho : o.op = .box ty x) {z : Value} (hx : a.eval x = z) {vs : List Value} (hv : z.cells.toList = vs)
    (h : ∀ (w' : World) (C : Nat), Sr B d w0 w' s ((C, vs) :: L) D O → wpList P ops Q rest (a.put o.dst (.pointer (some ⟨C, 0, none⟩))) w') : wpList P ops Q (o :: rest) a w :=
  H.st.w_box hgd ho hx hv fun w' C _ g h' => h w' C (H.fresh g h')
theorem Sr.w_store (H : Sr B d w0 w s L D O) (hgd : Region.wanted o (yielded ops a.tmps) = true) {ty : TypeId} {x y : Operand} (ho : o.op = .store ty x y) {C : Nat} (hx : a.eval x = .pointer (some ⟨C, 0, none⟩)) {ca : Array Value} (hy : a.eval y = .agg ca) (i : Nat) {us vs : List Value} (hv : ca.toList = vs) (hi : L[i]? = some (C, us))
    (hl : us.length = vs.length) (hs : (P.info? ty).map (·.size) = some vs.length) (h1 : ∀ v ∈ vs, v.oneCell' = true)
    (h : ∀ w' : World, Sr B d w0 w' s (L.set i (C, vs)) D O → wpList P ops Q rest (a.put o.dst undef) w') : wpList P ops Q (o :: rest) a w :=
  H.st.w_store hgd ho hx hy i hv hi hl hs h1 fun w' _ g h' => h w' (H.own (H.st.new _ (List.mem_of_getElem? hi)) g h')
theorem Sr.w_part (H : Sr B d w0 w s L D O) (hgd : Region.wanted o (yielded ops a.tmps) = true) {ty : TypeId} {x y : Operand} (ho : o.op = .store ty x y) {C off : Nat} (hx : a.eval x = .pointer (some ⟨C, off, none⟩)) {ca : Array Value} (hy : a.eval y = .agg ca) (i : Nat) {us vs : List Value} (hv : ca.toList = vs) (hi : L[i]? = some (C, us))
    (hl : off + vs.length ≤ us.length) (hs : (P.info? ty).map (·.size) = some vs.length) (h1 : ∀ v ∈ vs, v.oneCell' = true)
    (h : ∀ w' : World, Sr B d w0 w' s (L.set i (C, Pz.splice us off vs)) D O → wpList P ops Q rest (a.put o.dst undef) w') : wpList P ops Q (o :: rest) a w :=
  H.st.w_part hgd ho hx hy i hv hi hl hs h1 fun w' _ g h' => h w' (H.own (H.st.new _ (List.mem_of_getElem? hi)) g h')
theorem Sr.w_store1 (H : Sr B d w0 w s L D O) (hgd : Region.wanted o (yielded ops a.tmps) = true) {ty : TypeId} {x y : Operand} (ho : o.op = .store ty x y) {C off : Nat} (hx : a.eval x = .pointer (some ⟨C, off, none⟩)) {v : Value} (hy : a.eval y = v) (i : Nat) {us : List Value} (hi : L[i]? = some (C, us))
    (hl : off < us.length) (hs : (P.info? ty).map (·.size) = some 1) (h1 : v.oneCell' = true)
    (h : ∀ w' : World, Sr B d w0 w' s (L.set i (C, us.set off v)) D O → wpList P ops Q rest (a.put o.dst undef) w') : wpList P ops Q (o :: rest) a w :=
  H.st.w_store1 hgd ho hx hy i hi hl hs h1 fun w' _ g h' => h w' (H.own (H.st.new _ (List.mem_of_getElem? hi)) g h')
theorem Sr.mine (h : Sr B d w0 w s L D O) {w' : World} {L' : List Bx} {D' : List (List Dat × List Value)} {O' : List Ow} (g : Kept (fun b => w0.heap.size ≤ b) w w') (h' : St (fun b => b = B) w0 w' L' D' O') : Sr B d w0 w' s L' D' O' := ⟨h', h.pat.kept g fun k e => by have := h.lt; omega, h.lt⟩
theorem Sr.o_lit (H : Sr B d w0 w s L D O) {K : Act → World → Prop} {t e : TypeId} {n : Nat} {parts : Array (Nat × Operand)} (ho : o.op = .buildSlice t n parts) (hu : P.underlying t = some (.slice e)) {k : Nat} {z : Value} (hi : (P.info? e).map (fun i => (i.zero, i.size)) = some (some z, k)) (vs : List Value)
    (hp : (parts.toList.map fun p => (p.1, a.eval p.2)) = (vs.zipIdx 0).map fun x => (x.2, x.1)) (hn : n = vs.length) (hz : z.cells.size = k) (hk : 0 < k) (hn0 : 0 < n) (hnk : n * k ≤ 2 ^ 24) (h1 : ∀ v ∈ vs, v.cells.size = k) {cs : List Value} (hcs : (vs.flatMap fun v => v.cells.toList) = cs)
    (h : ∀ (w' : World) (C : Nat), Below w.heap.size w w' → Sr B d w0 w' s ((C, cs) :: L) D O → K (a.put o.dst (.slice (some ⟨C, 0, none⟩) n n)) w') : o.wp P a w K Q :=
  H.st.o_lit ho hu hi vs hp hn hz hk hn0 hnk h1 hcs fun w' C g h' => h w' C g (H.fresh g h')
theorem Sr.w_lit (H : Sr B d w0 w s L D O) (hgd : Region.wanted o (yielded ops a.tmps) = true) {t e : TypeId} {n : Nat} {parts : Array (Nat × Operand)} (ho : o.op = .buildSlice t n parts) (hu : P.underlying t = some (.slice e)) {k : Nat} {z : Value} (hi : (P.info? e).map (fun i => (i.zero, i.size)) = some (some z, k)) (vs : List Value)
    (hp : (parts.toList.map fun p => (p.1, a.eval p.2)) = (vs.zipIdx 0).map fun x => (x.2, x.1)) (hn : n = vs.length) (hz : z.cells.size = k) (hk : 0 < k) (hn0 : 0 < n) (hnk : n * k ≤ 2 ^ 24) (h1 : ∀ v ∈ vs, v.cells.size = k) {cs : List Value} (hcs : (vs.flatMap fun v => v.cells.toList) = cs)
    (h : ∀ (w' : World) (C : Nat), Sr B d w0 w' s ((C, cs) :: L) D O → wpList P ops Q rest (a.put o.dst (.slice (some ⟨C, 0, none⟩) n n)) w') : wpList P ops Q (o :: rest) a w :=
  wpList_want hgd fun _ hK => H.o_lit ho hu hi vs hp hn hz hk hn0 hnk h1 hcs fun w' C g h' => hK _ _ (h w' C h')
theorem Sr.o_lit1 (H : Sr B d w0 w s L D O) {K : Act → World → Prop} {t e : TypeId} {x : Operand} (ho : o.op = .buildSlice t 1 #[(0, x)]) (hu : P.underlying t = some (.slice e)) {k : Nat} {z : Value} (hi : (P.info? e).map (fun i => (i.zero, i.size)) = some (some z, k)) {v : Value} (hx : a.eval x = v)
    (hz : z.cells.size = k) (hk : 0 < k) (hnk : k ≤ 2 ^ 24) (h1 : v.cells.size = k) {cs : List Value} (hcs : v.cells.toList = cs)
    (h : ∀ (w' : World) (C : Nat), Sr B d w0 w' s ((C, cs) :: L) D O → K (a.put o.dst (.slice (some ⟨C, 0, none⟩) 1 1)) w') : o.wp P a w K Q :=
  H.st.o_lit1 ho hu hi hx hz hk hnk h1 hcs fun w' C g h' => h w' C (H.fresh g h')
theorem Sr.w_lit1 (H : Sr B d w0 w s L D O) (hgd : Region.wanted o (yielded ops a.tmps) = true) {t e : TypeId} {x : Operand} (ho : o.op = .buildSlice t 1 #[(0, x)]) (hu : P.underlying t = some (.slice e)) {k : Nat} {z : Value} (hi : (P.info? e).map (fun i => (i.zero, i.size)) = some (some z, k)) {v : Value} (hx : a.eval x = v)
    (hz : z.cells.size = k) (hk : 0 < k) (hnk : k ≤ 2 ^ 24) (h1 : v.cells.size = k) {cs : List Value} (hcs : v.cells.toList = cs)
    (h : ∀ (w' : World) (C : Nat), Sr B d w0 w' s ((C, cs) :: L) D O → wpList P ops Q rest (a.put o.dst (.slice (some ⟨C, 0, none⟩) 1 1)) w') : wpList P ops Q (o :: rest) a w :=
  wpList_want hgd fun _ hK => H.o_lit1 ho hu hi hx hz hk hnk h1 hcs fun w' C h' => hK _ _ (h w' C h')
theorem Sr.o_append (H : Sr B d w0 w s L D O) {K : Act → World → Prop} {s' x : Operand} {t e : TypeId} (ho : o.op = .call { callee := .builtin .append, args := #[s', x], argTypes := #[t, t] }) (ht : P.underlying t = some (.slice e)) {z : Value} {k bytes : Nat} (hi : (P.info? e).map (fun i => (i.zero, i.size, i.bytes)) = some (some z, k, bytes))
    (hzs : z.cells.size = k) (hk : 0 < k) (hb1 : bytes ≤ 1000) (i : Nat) {X : Ow} (hO : O[i]? = some X) (hT : X.T = e) (hX : X.k = k) (hs : a.eval s' = X.v) {C : Nat} (hx : a.eval x = .slice (some ⟨C, 0, none⟩) 1 1) (j : Nat) {cs : List Value} (hj : L[j]? = some (C, cs)) {r : List Dat} (hrl : r.length = X.k) (hr : Row w (okL w0.heap.size L O) r cs) (hlen : X.rows.length + 1 ≤ 1000000)
    (h : ∀ (w' : World) (ao : Option Addr) (cap : Nat), Kept (fun b => w0.heap.size ≤ b) w w' → Sr B d w0 w' s L D (O.set i ⟨X.T, X.k, .slice ao (X.rows.length + 1) cap, X.rows ++ [r], X.cells ++ [cs]⟩) → K (a.put o.dst (.slice ao (X.rows.length + 1) cap)) w') : o.wp P a w K Q :=
  H.st.o_append ho ht hi hzs hk hb1 i hO hT hX hs hx j hj hrl hr hlen fun w' ao cap g h' => h w' ao cap g (H.mine g h')
theorem Sr.w_append (H : Sr B d w0 w s L D O) (hgd : Region.wanted o (yielded ops a.tmps) = true) {s' x : Operand} {t e : TypeId} (ho : o.op = .call { callee := .builtin .append, args := #[s', x], argTypes := #[t, t] }) (ht : P.underlying t = some (.slice e)) {z : Value} {k bytes : Nat} (hi : (P.info? e).map (fun i => (i.zero, i.size, i.bytes)) = some (some z, k, bytes))
    (hzs : z.cells.size = k) (hk : 0 < k) (hb1 : bytes ≤ 1000) (i : Nat) {X : Ow} (hO : O[i]? = some X) (hT : X.T = e) (hX : X.k = k) (hs : a.eval s' = X.v) {C : Nat} (hx : a.eval x = .slice (some ⟨C, 0, none⟩) 1 1) (j : Nat) {cs : List Value} (hj : L[j]? = some (C, cs)) {r : List Dat} (hrl : r.length = X.k) (hr : Row w (okL w0.heap.size L O) r cs) (hlen : X.rows.length + 1 ≤ 1000000)
    (h : ∀ (w' : World) (ao : Option Addr) (cap : Nat), Sr B d w0 w' s L D (O.set i ⟨X.T, X.k, .slice ao (X.rows.length + 1) cap, X.rows ++ [r], X.cells ++ [cs]⟩) → wpList P ops Q rest (a.put o.dst (.slice ao (X.rows.length + 1) cap)) w') : wpList P ops Q (o :: rest) a w :=
  wpList_want hgd fun _ hK => H.o_append ho ht hi hzs hk hb1 i hO hT hX hs hx j hj hrl hr hlen fun w' ao cap g h' => hK _ _ (h w' ao cap h')
theorem Sr.o_store1 (H : Sr B d w0 w s L D O) {K : Act → World → Prop} {ty : TypeId} {x y : Operand} (ho : o.op = .store ty x y) {C off : Nat} (hx : a.eval x = .pointer (some ⟨C, off, none⟩)) {v : Value} (hy : a.eval y = v) (i : Nat) {us : List Value} (hi : L[i]? = some (C, us))
    (hl : off < us.length) (hs : (P.info? ty).map (·.size) = some 1) (h1 : v.oneCell' = true)
    (h : ∀ w' : World, Sr B d w0 w' s (L.set i (C, us.set off v)) D O → K (a.put o.dst undef) w') : o.wp P a w K Q :=
  H.st.o_store1 ho hx hy i hi hl hs h1 fun w' _ g h' => h w' (H.own (H.st.new _ (List.mem_of_getElem? hi)) g h')
theorem Sr.o_put (H : Sr B d w0 w s L D O) {K : Act → World → Prop} {ty : TypeId} {x y : Operand} (ho : o.op = .store ty x y) (i : Nat) {g n cap k : Nat} {T : TypeId} {R : List (List Dat)} {C : List (List Value)} {r0 r : List Dat} {c0 cs : List Value} (hi : O[i]? = some ⟨T, k, .slice (some ⟨g, 0, none⟩) n cap, R ++ [r0], C ++ [c0]⟩)
    (hx : a.eval x = .pointer (some ⟨g, R.length * k, none⟩)) {ca : Array Value} (hy : a.eval y = .agg ca) (hca : ca.toList = cs) (hs : (P.info? ty).map (·.size) = some k) (hrl : r.length = k) (hr : Row w (okL w0.heap.size L O) r cs)
    (h : ∀ w' : World, Sr B d w0 w' s L D (O.set i ⟨T, k, .slice (some ⟨g, 0, none⟩) n cap, R ++ [r], C ++ [cs]⟩) → K (a.put o.dst undef) w') : o.wp P a w K Q :=
  H.st.o_put ho i hi hx hy hca hs hrl hr fun w' g h' => h w' (H.mine g h')
theorem Sr.w_litO1 (H : Sr B d w0 w s L D O) (hgd : Region.wanted o (yielded ops a.tmps) = true) {t e : TypeId} {x : Operand} (ho : o.op = .buildSlice t 1 #[(0, x)]) (hu : P.underlying t = some (.slice e)) {k : Nat} {z : Value} (hi : (P.info? e).map (fun i => (i.zero, i.size)) = some (some z, k)) {v : Value} (hx : a.eval x = v)
    (hz : z.cells.size = k) (hk : 0 < k) (hnk : k ≤ 2 ^ 24) (h1 : v.cells.size = k) {cs : List Value} (hcs : v.cells.toList = cs) {r : List Dat} (hrl : r.length = k) (hr : Row w (okL w0.heap.size L O) r cs)
    (h : ∀ (w' : World) (C : Nat), Sr B d w0 w' s L D (⟨e, k, .slice (some ⟨C, 0, none⟩) 1 1, [r], [cs]⟩ :: O) → wpList P ops Q rest (a.put o.dst (.slice (some ⟨C, 0, none⟩) 1 1)) w') : wpList P ops Q (o :: rest) a w :=
  wpList_want hgd fun _ hK => H.st.o_litO1 ho hu hi hx hz hk hnk h1 hcs hrl hr fun w' C g h' => hK _ _ (h w' C (H.fresh g h'))
theorem Sr.rowTo (H : Sr B d w0 w s L D O) {j : Nat} {ds : List Dat} {cs : List Value} (hj : D[j]? = some (ds, cs)) : RowTo w0 B d ds s (.returned (.agg cs.toArray)) w := ⟨cs, rfl, (H.st.rowAt hj).weak fun b _ ho => ho.1, H.st.kept, H.pat⟩
theorem Sr.rowTo' (H : Sr B d w0 w s L D O) {ds : List Dat} {cs : List Value} (hr : Row w (okL w0.heap.size L O) ds cs) : RowTo w0 B d ds s (.returned (.agg cs.toArray)) w := ⟨cs, rfl, hr.weak fun b _ ho => ho.1, H.st.kept, H.pat⟩
theorem Sr.o_alloc (H : Sr B d w0 w s L D O) {K : Act → World → Prop} {ty : TypeId} (ho : o.op = .alloc ty) {z : Value} (hz : (P.info? ty).bind (·.zero) = some z) {vs : List Value} (hv : z.cells.toList = vs)
    (h : ∀ (w' : World) (C : Nat), Sr B d w0 w' s ((C, vs) :: L) D O → K (a.put o.dst (.pointer (some ⟨C, 0, none⟩))) w') : o.wp P a w K Q :=
  H.st.o_alloc ho hz hv fun w' C g h' => h w' C (H.fresh g h')
theorem Sr.w_put (H : Sr B d w0 w s L D O) (hgd : Region.wanted o (yielded ops a.tmps) = true) {ty : TypeId} {x y : Operand} (ho : o.op = .store ty x y) (i : Nat) {g n cap k : Nat} {T : TypeId} {R : List (List Dat)} {C : List (List Value)} {r0 r : List Dat} {c0 cs : List Value} (hi : O[i]? = some ⟨T, k, .slice (some ⟨g, 0, none⟩) n cap, R ++ [r0], C ++ [c0]⟩)
    (hx : a.eval x = .pointer (some ⟨g, R.length * k, none⟩)) {ca : Array Value} (hy : a.eval y = .agg ca) (hca : ca.toList = cs) (hs : (P.info? ty).map (·.size) = some k) (hrl : r.length = k) (hr : Row w (okL w0.heap.size L O) r cs)
    (h : ∀ w' : World, Sr B d w0 w' s L D (O.set i ⟨T, k, .slice (some ⟨g, 0, none⟩) n cap, R ++ [r], C ++ [cs]⟩) → wpList P ops Q rest (a.put o.dst undef) w') : wpList P ops Q (o :: rest) a w :=
  wpList_want hgd fun _ hK => H.o_put ho i hi hx hy hca hs hrl hr fun w' h' => hK _ _ (h w' h')
theorem St.form {S : Nat → Prop} (h : St S w0 w L D O) {i : Nat} {X : Ow} (hi : O[i]? = some X) : ∃ ao cap, X.v = .slice ao X.rows.length cap := by
  rcases (h.own X (List.mem_of_getElem? hi)).2 with ⟨e1, e2⟩ | ⟨g, cp, cur, e1, _⟩
  · exact ⟨none, 0, by rw [e1, e2]⟩
  · exact ⟨_, cp, e1⟩
theorem St.someA {S : Nat → Prop} (h : St S w0 w L D O) {i n cap k : Nat} {T : TypeId} {ao : Option Addr} {R : List (List Dat)} {C : List (List Value)} (hi : O[i]? = some ⟨T, k, .slice ao (n + 1) cap, R, C⟩) : ∃ g, ao = some ⟨g, 0, none⟩ := by
  rcases (h.own _ (List.mem_of_getElem? hi)).2 with ⟨e1, e2⟩ | ⟨g, cp, cur, e1, _⟩
  · have e1' : Value.slice ao (n + 1) cap = .slice none 0 0 := e1
    injection e1' with _ e _
    omega
  · have e1' : Value.slice ao (n + 1) cap = .slice (some ⟨g, 0, none⟩) R.length cp := e1
    injection e1' with e _ _
    exact ⟨g, e⟩
theorem Sr.drop {L' : List Bx} (h : Sr B d w0 w s L D O) (hs : L'.Sublist L) : Sr B d w0 w s L' D O := ⟨h.st.drop hs, h.pat, h.lt⟩
theorem Sr.less {D' : List (List Dat × List Value)} (h : Sr B d w0 w s L D O) (hs : ∀ q ∈ D', q ∈ D) : Sr B d w0 w s L D' O := ⟨h.st.less hs, h.pat, h.lt⟩
theorem Sr.gather (h : Sr B d w0 w s L D O) (T : TypeId) (k : Nat) : Sr B d w0 w s L D (⟨T, k, .slice none 0 0, [], []⟩ :: O) := ⟨h.st.gather T k, h.pat, h.lt⟩
theorem Sr.shut {x : Ow} (h : Sr B d w0 w s L D (x :: O)) : Sr B d w0 w s L (([.sl x.k x.rows], [x.v]) :: D) O := ⟨h.st.shut, h.pat, h.lt⟩
theorem Sr.drew (h : Sr B d w0 w s L D O) : Sr B d w0 w.drew s L D O := ⟨h.st.next (S' := fun _ => False) (Kept.refl _ w).drew fun _ x => x.elim, h.pat.kept (S := fun _ => False) (Kept.refl _ w).drew (fun _ x => x.elim), h.lt⟩
theorem Sr.cell (h : Sr B d w0 w s L D O) {i C : Nat} {us : List Value} (hi : L[i]? = some (C, us)) {off : Nat} {v : Value} (hv : us[off]? = some v) : w.cell? ⟨C, off, none⟩ = some v := (h.st.at hi).cl off v hv
/-! ### Slices that closures gather -/
/-- The variable that holds the slice, the variable that holds the reader. -/
structure Slot (B A C ia ic off : Nat) (Lf : Value → List Bx) : Prop where
  a : ∀ v, ∃ us, (Lf v)[ia]? = some (A, us) ∧ us[off]? = some v ∧ off < us.length ∧ ∀ v', (Lf v).set ia (A, us.set off v') = Lf v'
  c : ∀ v, (Lf v)[ic]? = some (C, [.pointer (some ⟨B, 0, none⟩)])
def Gt {α : Type} (m B d : Nat) (w0 : World) (Lf : Value → List Bx) (D : List (List Dat × List Value)) (O : List Ow) (T : TypeId) (k : Nat) (rD : α → List Dat) (W : World) (acc : List α) (s : Ps) : Prop :=
  acc.length ≤ s.i + m ∧ ∃ v cells, Sr B d w0 W s (Lf v) D (⟨T, k, v, acc.map rD, cells⟩ :: O)
theorem Gt.pat {α : Type} {m : Nat} {Lf : Value → List Bx} {T : TypeId} {k : Nat} {rD : α → List Dat} {W : World} {acc : List α} (h : Gt m B d w0 Lf D O T k rD W acc s) : PAt W B d s := by
  obtain ⟨_, v, cells, h⟩ := h
  exact h.pat
theorem Gt.call {α : Type} {m m' : Nat} {Lf : Value → List Bx} {T : TypeId} {k : Nat} {rD : α → List Dat} {W W' : World} {acc : List α} (h : Gt m B d w0 Lf D O T k rD W acc s) (hK : Kept (fun b => b = B) W W') (hP : PAt W' B d s') (hi : s.i + m ≤ s'.i + m') : Gt m' B d w0 Lf D O T k rD W' acc s' := by
  obtain ⟨h0, v, cells, h⟩ := h
  exact ⟨by omega, v, cells, h.call hK hP⟩
theorem Gt.start {α : Type} {Lf : Value → List Bx} (h : Sr B d w0 w s (Lf (.slice none 0 0)) D O) (T : TypeId) (k : Nat) (rD : α → List Dat) : Gt 0 B d w0 Lf D O T k rD w [] s := ⟨Nat.zero_le _, _, _, h.gather T k⟩
end
section
variable {P : Program} {ops : Array Oper} {Q : Exit → Act → World → Prop} {md : Region.Mode} {S : World → Prop} {m : Nat}
/-- What yields in whatever world is taken, ahead of number m. -/
theorem wpAnyM_takeP {i : Nat} {oi : Oper} {v : Value} {fuel : Nat} {listed : Array Bool} {a : Act} {w : World} (hi : ops[i]? = some oi)
    (hs : Region.noSelect ops = true) (hf : Region.free md ops listed i = true) (hr : (Region.ready md ops listed).contains i = true) (him : (i == m) = false)
    (hQ : ∀ c a w, Q (.panic c) (a.put oi.dst v) w → Q (.panic c) a w) (hy : YieldsIf P ops (fun _ => True) oi v a) (hS : S w)
    (h : wpAnyM P md ops Q S m fuel (listed.setIfInBounds i true) (a.put oi.dst v) w) : wpAnyM P md ops Q S m (fuel + 1) listed a w :=
  wpAnyM_pure hi hs him hQ fuel listed a w (Region.free_spec hi hf) (by simpa using hr) hy (fun _ => hS) h
end
end Go.Proofs.YtonkjhmkppeagaaGreatDoor.Pz

set_option linter.unusedVariables false
namespace Go.Proofs.YtonkjhmkppeagaaGreatDoor.Pz
open Go.RowKit Go Ba Lx

theorem zEx_ : (Tryz.prog.info? 27).bind (·.zero) = some (.agg #[.int .i64 0, .string ⟨#[]⟩, .int .i64 0, .int .i64 0, .string ⟨#[]⟩, .string ⟨#[]⟩, .slice none 0 0]) := by kernel_rfl
theorem sEx_ : (Tryz.prog.info? 27).map (·.size) = some 7 := by kernel_rfl
theorem uEx_ : (Tryz.prog.underlying 27).map (·.isRow) = some true := by kernel_rfl
theorem zPl_ : (Tryz.prog.info? 57).bind (·.zero) = some (.agg #[.int .i64 0, .string ⟨#[]⟩, .slice none 0 0, .int .i64 0, .string ⟨#[]⟩, .int .i64 0, .int .i64 0, .string ⟨#[]⟩, .string ⟨#[]⟩, .slice none 0 0, .slice none 0 0, .slice none 0 0, .slice none 0 0, .slice none 0 0, .slice none 0 0, .int .i64 0]) := by kernel_rfl
theorem sPl_ : (Tryz.prog.info? 57).map (·.size) = some 16 := by kernel_rfl
theorem uPl_ : (Tryz.prog.underlying 57).map (·.isRow) = some true := by kernel_rfl
theorem zDf_ : (Tryz.prog.info? 88).bind (·.zero) = some (.agg #[.int .i64 0, .string ⟨#[]⟩, .slice none 0 0, .int .i64 0, .int .i64 0, .int .i64 0, .slice none 0 0, .int .i64 0, .string ⟨#[]⟩, .slice none 0 0, .int .i64 0, .string ⟨#[]⟩, .int .i64 0, .int .i64 0, .string ⟨#[]⟩, .string ⟨#[]⟩, .slice none 0 0, .slice none 0 0, .slice none 0 0, .slice none 0 0, .slice none 0 0, .slice none 0 0, .int .i64 0, .string ⟨#[]⟩, .slice none 0 0]) := by kernel_rfl
theorem sDf_ : (Tryz.prog.info? 88).map (·.size) = some 25 := by kernel_rfl
theorem uDf_ : (Tryz.prog.underlying 88).map (·.isRow) = some true := by kernel_rfl
theorem zSc_ : (Tryz.prog.info? 85).bind (·.zero) = some (.agg #[.int .i64 0, .int .i64 0, .int .i64 0]) := by kernel_rfl
theorem sSc_ : (Tryz.prog.info? 85).map (·.size) = some 3 := by kernel_rfl
theorem uSc_ : (Tryz.prog.underlying 85).map (·.isRow) = some true := by kernel_rfl
theorem zMp_ : (Tryz.prog.info? 100).bind (·.zero) = some (.agg #[.int .i64 0, .int .i64 0]) := by kernel_rfl
theorem sMp_ : (Tryz.prog.info? 100).map (·.size) = some 2 := by kernel_rfl
theorem uMp_ : (Tryz.prog.underlying 100).map (·.isRow) = some true := by kernel_rfl
theorem zCo_ : (Tryz.prog.info? 92).bind (·.zero) = some (.agg #[.string ⟨#[]⟩, .int .i64 0]) := by kernel_rfl
theorem sCo_ : (Tryz.prog.info? 92).map (·.size) = some 2 := by kernel_rfl
theorem uCo_ : (Tryz.prog.underlying 92).map (·.isRow) = some true := by kernel_rfl
theorem zPr_ : (Tryz.prog.info? 65).bind (·.zero) = some (.agg #[.string ⟨#[]⟩, .string ⟨#[]⟩]) := by kernel_rfl
theorem sPr_ : (Tryz.prog.info? 65).map (·.size) = some 2 := by kernel_rfl
theorem uPr_ : (Tryz.prog.underlying 65).map (·.isRow) = some true := by kernel_rfl
theorem zAg_ : (Tryz.prog.info? 67).bind (·.zero) = some (.agg #[.string ⟨#[]⟩, .string ⟨#[]⟩, .string ⟨#[]⟩]) := by kernel_rfl
theorem sAg_ : (Tryz.prog.info? 67).map (·.size) = some 3 := by kernel_rfl
theorem uAg_ : (Tryz.prog.underlying 67).map (·.isRow) = some true := by kernel_rfl
theorem zOr_ : (Tryz.prog.info? 69).bind (·.zero) = some (.agg #[.string ⟨#[]⟩, .bool false]) := by kernel_rfl
theorem sOr_ : (Tryz.prog.info? 69).map (·.size) = some 2 := by kernel_rfl
theorem uOr_ : (Tryz.prog.underlying 69).map (·.isRow) = some true := by kernel_rfl
theorem zIn_ : (Tryz.prog.info? 102).bind (·.zero) = some (.agg #[.string ⟨#[]⟩, .int .i64 0, .int .i64 0, .string ⟨#[]⟩]) := by kernel_rfl
theorem sIn_ : (Tryz.prog.info? 102).map (·.size) = some 4 := by kernel_rfl
theorem uIn_ : (Tryz.prog.underlying 102).map (·.isRow) = some true := by kernel_rfl
theorem zTk_ : (Tryz.prog.info? 169).bind (·.zero) = some (.agg #[.int .i64 0, .string ⟨#[]⟩, .int .i64 0, .int .i64 0]) := by kernel_rfl
theorem sTk_ : (Tryz.prog.info? 169).map (·.size) = some 4 := by kernel_rfl
theorem uTk_ : (Tryz.prog.underlying 169).map (·.isRow) = some true := by kernel_rfl
theorem zVl_ : (Tryz.prog.info? 24).bind (·.zero) = some (.agg #[.int .i64 0, .int .i64 0, .string ⟨#[]⟩]) := by kernel_rfl
theorem sVl_ : (Tryz.prog.info? 24).map (·.size) = some 3 := by kernel_rfl
theorem uVl_ : (Tryz.prog.underlying 24).map (·.isRow) = some true := by kernel_rfl
theorem sStr_ : (Tryz.prog.info? 9).map (·.size) = some 1 := by kernel_rfl
theorem uStr_ : (Tryz.prog.underlying 9).map (·.isRow) = some false := by kernel_rfl
theorem sInt_ : (Tryz.prog.info? 3).map (·.size) = some 1 := by kernel_rfl
theorem uInt_ : (Tryz.prog.underlying 3).map (·.isRow) = some false := by kernel_rfl
theorem sBool_ : (Tryz.prog.info? 4).map (·.size) = some 1 := by kernel_rfl
theorem uBool_ : (Tryz.prog.underlying 4).map (·.isRow) = some false := by kernel_rfl
theorem sPar_ : (Tryz.prog.info? 112).map (·.size) = some 1 := by kernel_rfl
theorem uPar_ : (Tryz.prog.underlying 112).map (·.isRow) = some false := by kernel_rfl
theorem sPPl_ : (Tryz.prog.info? 177).map (·.size) = some 1 := by kernel_rfl
theorem uPPl_ : (Tryz.prog.underlying 177).map (·.isRow) = some false := by kernel_rfl
theorem sSStr_ : (Tryz.prog.info? 48).map (·.size) = some 1 := by kernel_rfl
theorem uSStr_ : (Tryz.prog.underlying 48).map (·.isRow) = some false := by kernel_rfl
theorem sSEx_ : (Tryz.prog.info? 25).map (·.size) = some 1 := by kernel_rfl
theorem uSEx_ : (Tryz.prog.underlying 25).map (·.isRow) = some false := by kernel_rfl
theorem sSPl_ : (Tryz.prog.info? 52).map (·.size) = some 1 := by kernel_rfl
theorem uSPl_ : (Tryz.prog.underlying 52).map (·.isRow) = some false := by kernel_rfl
theorem sSPr_ : (Tryz.prog.info? 53).map (·.size) = some 1 := by kernel_rfl
theorem uSPr_ : (Tryz.prog.underlying 53).map (·.isRow) = some false := by kernel_rfl
theorem sSAg_ : (Tryz.prog.info? 54).map (·.size) = some 1 := by kernel_rfl
theorem uSAg_ : (Tryz.prog.underlying 54).map (·.isRow) = some false := by kernel_rfl
theorem sSOr_ : (Tryz.prog.info? 55).map (·.size) = some 1 := by kernel_rfl
theorem uSOr_ : (Tryz.prog.underlying 55).map (·.isRow) = some false := by kernel_rfl
theorem sSIn_ : (Tryz.prog.info? 86).map (·.size) = some 1 := by kernel_rfl
theorem uSIn_ : (Tryz.prog.underlying 86).map (·.isRow) = some false := by kernel_rfl
theorem sSDf_ : (Tryz.prog.info? 74).map (·.size) = some 1 := by kernel_rfl
theorem uSDf_ : (Tryz.prog.underlying 74).map (·.isRow) = some false := by kernel_rfl
theorem sSch_ : (Tryz.prog.info? 83).map (·.size) = some 1 := by kernel_rfl
theorem uSch_ : (Tryz.prog.underlying 83).map (·.isRow) = some false := by kernel_rfl
end Go.Proofs.YtonkjhmkppeagaaGreatDoor.Pz

set_option linter.unusedVariables false
set_option linter.unusedSimpArgs false
namespace Go.Proofs.YtonkjhmkppeagaaGreatDoor.Pz
open Go.RowKit Go Go.Sort Ba Lx

section
variable {P : Program} {o : Oper} {a : Act} {Q : Exit → Act → World → Prop}
variable {S : Nat → Prop} {w0 w : World} {L : List Bx} {D : List (List Dat × List Value)} {O : List Ow}
theorem St.o_load (H : St S w0 w L D O) {K : Act → World → Prop} {ty : TypeId} {x : Operand} (ho : o.op = .load ty x) {C : Nat} (hx : a.eval x = .pointer (some ⟨C, 0, none⟩)) (i : Nat) {cs : List Value} (hi : L[i]? = some (C, cs))
    (hu : (P.underlying ty).map (·.isRow) = some true) (hs : (P.info? ty).map (·.size) = some cs.length) (h : K (a.put o.dst (.agg cs.toArray)) w) : o.wp P a w K Q := by
  cases hq : P.underlying ty with
  | none => rw [hq] at hu; cases hu
  | some d =>
    rw [hq] at hu
    exact wp_load_mid ty x ho C 0 hx cs d (box_range (H.at hi)) hq (Option.some.inj hu) hs h
theorem St.o_store (H : St S w0 w L D O) {K : Act → World → Prop} {ty : TypeId} {x y : Operand} (ho : o.op = .store ty x y) {C : Nat} (hx : a.eval x = .pointer (some ⟨C, 0, none⟩)) {ca : Array Value} (hy : a.eval y = .agg ca) (i : Nat) {us vs : List Value} (hv : ca.toList = vs) (hi : L[i]? = some (C, us))
    (hl : us.length = vs.length) (hs : (P.info? ty).map (·.size) = some vs.length) (h1 : ∀ v ∈ vs, v.oneCell' = true)
    (h : ∀ w' : World, w'.heap.size = w.heap.size → Kept (fun b => b = C) w w' → St S w0 w' (L.set i (C, vs)) D O → K (a.put o.dst undef) w') : o.wp P a w K Q := by
  subst hv
  have hb := H.at hi
  refine wp_store_mid ty x y ho C 0 ca hx hy ?_ (by simpa using hs) (by simpa using all_oneCell_toArray h1) (h _ ?_ ?_ (H.store hi hl))
  · have := box_there hb; rw [hl] at this; simpa using this
  · rw [setCells_eq, size_setN]
  · rw [setCells_eq]; exact Kept.setN (S := fun b => b = C) (.inl rfl) _ 0 (Kept.refl _ w)
variable {B d : Nat} {s : Ps}
theorem Sr.o_store (H : Sr B d w0 w s L D O) {K : Act → World → Prop} {ty : TypeId} {x y : Operand} (ho : o.op = .store ty x y) {C : Nat} (hx : a.eval x = .pointer (some ⟨C, 0, none⟩)) {ca : Array Value} (hy : a.eval y = .agg ca) (i : Nat) {us vs : List Value} (hv : ca.toList = vs) (hi : L[i]? = some (C, us))
    (hl : us.length = vs.length) (hs : (P.info? ty).map (·.size) = some vs.length) (h1 : ∀ v ∈ vs, v.oneCell' = true)
    (h : ∀ w' : World, Sr B d w0 w' s (L.set i (C, vs)) D O → K (a.put o.dst undef) w') : o.wp P a w K Q :=
  H.st.o_store ho hx hy i hv hi hl hs h1 fun w' _ g h' => h w' (H.own (H.st.new _ (List.mem_of_getElem? hi)) g h')
theorem Sr.drewN (h : Sr B d w0 w s L D O) (n : Nat) : Sr B d w0 (w.drewN n) s L D O := ⟨h.st.next (S' := fun _ => False) ((Kept.refl _ w).drewN n) fun _ x => x.elim, h.pat.kept (S := fun _ => False) ((Kept.refl _ w).drewN n) (fun _ x => x.elim), h.lt⟩
theorem Sr.cE (h : Sr B d w0 w s L D O) : w.cell? ⟨B, 2, none⟩ = some (.int .i64 (s.E : Int)) := by
  obtain ⟨_, _, _, _, sl, hb, _⟩ := h.pat
  exact hb.cl 2 _ rfl
theorem Sr.ce (h : Sr B d w0 w s L D O) {e : Int} (he : s.e = e) : w.cell? ⟨B, 4, none⟩ = some (.int .i64 e) := by
  obtain ⟨_, _, _, _, sl, hb, _⟩ := h.pat
  rw [← he]
  exact hb.cl 4 _ rfl
theorem Sr.ca (h : Sr B d w0 w s L D O) : w.cell? ⟨B, 5, none⟩ = some (.int .i64 (s.a : Int)) := by
  obtain ⟨_, _, _, _, sl, hb, _⟩ := h.pat
  exact hb.cl 5 _ rfl
end
theorem St.results2 {P : Program} {S : Nat → Prop} {w0 w : World} {L : List Bx} {D : List (List Dat × List Value)} {O : List Ow} (H : St S w0 w L D O) {fn : Func} {p q : Tmp} {ty : TypeId} (h : fn.results = #[.cell p ty, .tmp q]) {tmps : Array Value} {C : Nat} (hp : tmps.getD p undef = .pointer (some ⟨C, 0, none⟩)) (i : Nat) {cs : List Value} (hi : L[i]? = some (C, cs))
    (hu : (P.underlying ty).map (·.isRow) = some true) (hs : (P.info? ty).map (·.size) = some cs.length) : (Go.results fn tmps).run P w = .ok (.tuple #[.agg cs.toArray, tmps.getD q undef]) w := by
  have hp' : tmps[p]?.getD undef = .pointer (some ⟨C, 0, none⟩) := by simpa using hp
  simp [Go.results, h, hp', asAddr, run_result hu hs (H.at hi)]
theorem St.w_lit1 {P : Program} {ops : Array Oper} {rest : List Oper} {o : Oper} {a : Act} {Q : Exit → Act → World → Prop} {S : Nat → Prop} {w0 w : World} {L : List Bx} {D : List (List Dat × List Value)} {O : List Ow} (H : St S w0 w L D O) (hgd : Region.wanted o (yielded ops a.tmps) = true) {t e : TypeId} {x : Operand} (ho : o.op = .buildSlice t 1 #[(0, x)]) (hu : P.underlying t = some (.slice e)) {k : Nat} {z : Value} (hi : (P.info? e).map (fun i => (i.zero, i.size)) = some (some z, k)) {v : Value} (hx : a.eval x = v)
    (hz : z.cells.size = k) (hk : 0 < k) (hnk : k ≤ 2 ^ 24) (h1 : v.cells.size = k) {cs : List Value} (hcs : v.cells.toList = cs)
    (h : ∀ (w' : World) (C : Nat), St S w0 w' ((C, cs) :: L) D O → wpList P ops Q rest (a.put o.dst (.slice (some ⟨C, 0, none⟩) 1 1)) w') : wpList P ops Q (o :: rest) a w :=
  wpList_want hgd fun _ hK => H.o_lit1 ho hu hi hx hz hk hnk h1 hcs fun w' C _ h' => hK _ _ (h w' C h')
theorem St.drew {S : Nat → Prop} {w0 w : World} {L : List Bx} {D : List (List Dat × List Value)} {O : List Ow} (h : St S w0 w L D O) : St S w0 w.drew L D O := h.next (S' := fun _ => False) (Kept.refl _ w).drew fun _ x => x.elim
end Go.Proofs.YtonkjhmkppeagaaGreatDoor.Pz
